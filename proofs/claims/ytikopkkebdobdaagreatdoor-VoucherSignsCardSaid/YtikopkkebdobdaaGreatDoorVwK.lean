/- Picked declarations of VoC, VoK, VoE. -/
import Derived.Test.YtikopkkebdobdaaGreatDoorVwU
import Derived.Test.YtikopkkebdobdaaGreatDoorVwN
import Derived.Test.YtikopkkebdobdaaGreatDoorVwG
import Derived.Test.YtikopkkebdobdaaGreatDoorVw0
namespace Go.Proofs.YtikopkkebdobdaaGreatDoor
set_option maxRecDepth 100000
set_option maxHeartbeats 8000000
open Nn.NatMath (len digs)
open Nn (Sl vld ResN ResZ)
set_option linter.unusedVariables false
set_option linter.unusedSimpArgs false
open Go.RowKit
/-- a key, as both texts ask for it -/
def kV (lN lE : List Nat) : Bool := [lN, lE].all vld && (decide (Nn.NatMath.bl (Nn.NatMath.val lN) ≤ 512) && (!decide (Nn.NatMath.val lN < 15) && (!decide (Nn.NatMath.val lE < 3) && decide (Nn.NatMath.val lE < Nn.NatMath.val lN))))
structure Key (N E : Nat) : Prop where
 vN : vld (digs N) = true
 vE : vld (digs E) = true
 lN : len N ≤ 32
 lE : len E ≤ 32
 n15 : 15 ≤ N
 e3 : 3 ≤ E
 eN : E < N
 k : kV (digs N) (digs E) = true
theorem all2 {a b : List Nat} {t : Bool} (h : [a, b].all vld = t) : (vld a && vld b) = t := by rw [← h]; simp
section
variable {w : World} {a b : Value} {lN lE : List Nat} {t : Bool}
theorem Key.of (ha : Sl w a lN) (hb : Sl w b lE) (h : kV lN lE = true) : ∃ N E, lN = digs N ∧ lE = digs E ∧ Key N E := by
 have h0 := h
 unfold kV at h
 simp only [Bool.and_eq_true, Bool.not_eq_true', decide_eq_true_eq, decide_eq_false_iff_not] at h
 obtain ⟨h1, h2, h3, h4, h5⟩ := h
 have h1' := all2 h1
 rw [Bool.and_eq_true] at h1'
 obtain ⟨N, rfl, hl, hN⟩ := Nn.nt_of ha h1'.1
 obtain ⟨E, rfl, hl2, hE⟩ := Nn.nt_of hb h1'.2
 rw [Nn.NatMath.val_digs] at h2 h3 h5
 rw [Nn.NatMath.val_digs] at h4 h5
 have h6 : len N ≤ 32 := Nn.NatMath.len_le_bits.1 (by omega)
 exact ⟨N, E, rfl, rfl, h1'.1, h1'.2, h6, Nat.le_trans (Nn.NatMath.len_mono (Nat.le_of_lt h5)) h6, by omega, by omega, h5, h0⟩
theorem vKey_c (ht : kV lN lE = t) (ha : Sl w a lN) (hb : Sl w b lE) :
  Calls Tryz.prog 33 #[.agg #[a, b]] w fun e w' => e = .returned (.bool t) ∧ Below w.heap.size w w' := by
 have ha0 := ha
 have hb0 := hb
 obtain ⟨ao, ca, rfl, _⟩ := ha0
 obtain ⟨bo, cb, rfl, _⟩ := hb0
 cases hv : [lN, lE].all vld with
 | false =>
  have : t = false := by rw [← ht]; unfold kV; rw [hv]; rfl
  subst this
  exact Valid_1 lN lE ha hb hv
 | true =>
  have h1' := all2 hv
  rw [Bool.and_eq_true] at h1'
  obtain ⟨N, rfl, hl, hN⟩ := Nn.nt_of ha h1'.1
  obtain ⟨E, rfl, hl2, hE⟩ := Nn.nt_of hb h1'.2
  unfold kV at ht
  rw [hv, Nn.NatMath.val_digs, Nn.NatMath.val_digs, Bool.true_and] at ht
  rw [← ht]
  exact Valid_n N E ha hb hl hl2 hv rfl rfl rfl rfl
theorem rKey_c (ht : kV lN lE = t) (ha : Sl w a lN) (hb : Sl w b lE) :
  Calls Tryz.prog 16 #[.agg #[a, b]] w fun e w' => e = .returned (.bool t) ∧ Below w.heap.size w w' := by
 have ha0 := ha
 have hb0 := hb
 obtain ⟨ao, ca, rfl, _⟩ := ha0
 obtain ⟨bo, cb, rfl, _⟩ := hb0
 cases hv : [lN, lE].all vld with
 | false =>
  have : t = false := by rw [← ht]; unfold kV; rw [hv]; rfl
  subst this
  have h1' := all2 hv
  cases h1 : vld lN with
  | false => exact rValid_1 lN lE ha hb h1
  | true => rw [h1, Bool.true_and] at h1'; exact rValid_1b lN lE ha hb h1 h1'
 | true =>
  have h1' := all2 hv
  rw [Bool.and_eq_true] at h1'
  obtain ⟨N, rfl, hl, hN⟩ := Nn.nt_of ha h1'.1
  obtain ⟨E, rfl, hl2, hE⟩ := Nn.nt_of hb h1'.2
  obtain ⟨hu1, hu2⟩ := h1'
  unfold kV at ht
  rw [hv, Nn.NatMath.val_digs, Nn.NatMath.val_digs, Bool.true_and] at ht
  rw [← ht, Bool.and_left_comm]
  exact rValid_n N E ha hb hl hu1 hu2 rfl rfl rfl rfl
end
theorem len_zero_beq {N : Nat} (h : N ≠ 0) : (((len N : Nat) : Int) == 0) = false ∧ (len N == 0) = false := by
 have h1 : len N ≠ 0 := fun e => h (Nn.NatMath.len_eq_zero.1 e)
 exact ⟨by rw [beq_eq_false_iff_ne]; omega, by rw [beq_eq_false_iff_ne]; omega⟩
open Go.RowKit
/-- a new box, by its cells -/
def PBx (B : Nat) (T : TypeId) (cs : List Value) : Fact := fun v b e W => ∃ g, v = .pointer (some ⟨g, 0, none⟩) ∧ b ≤ g ∧ g < e ∧ Box B g T cs W
theorem PBx.st (B : Nat) (T : TypeId) (cs : List Value) : (PBx B T cs).Stable := fun _ _ _ _ _ ⟨g, h1, h2, h3, h4⟩ hb => ⟨g, h1, h2, h3, h4.below hb⟩
theorem PBx.mk {B : Nat} {w W : World} (hB : Below w.heap.size w W) (hw : B = w.heap.size) (T : TypeId) (cs : List Value) : PBx B T cs (.pointer (some ⟨W.heap.size, 0, none⟩)) W.heap.size (W.alloc (.cells cs.toArray T)).heap.size (W.alloc (.cells cs.toArray T)) :=
 ⟨W.heap.size, rfl, Nat.le_refl _, by simp, hw ▸ hB.size, heap_alloc_new _ _⟩
theorem Env.gotBox2 {D0 : Nat → Prop} {w W W' : World} {F : List Bx} {G : List Fct} (h : Env D0 w F G W) (hb : Below W.heap.size W W') {g g2 : Nat} {T T2 : TypeId} {cs cs2 : List Value} (hB : Box W.heap.size g T cs W') (hB2 : Box W.heap.size g2 T2 cs2 W') (hne : g ≠ g2) : Env D0 w ((g, T, cs) :: (g2, T2, cs2) :: F) G W' := by
 have h1 := h.gotBox hb hB2
 refine ⟨h1.bel, ⟨⟨Nat.le_trans h.bel.size hB.1, hB.2⟩, fun q hq e => ?_, h1.box⟩, ?_⟩
 ·rcases List.mem_cons.1 hq with rfl | hq
  ·exact hne e.symm
  ·have := h.box.old q hq; have := hB.1; simp only at e; omega
 ·refine h.fct.turn hb.size (fun b hl hd => ⟨fun p hp => ?_, hd.2⟩) (fun b i hl _ => hb.cell (p := ⟨b, i, none⟩) hl)
  rcases List.mem_cons.1 hp with rfl | hp
  ·have := hB.1; simp only; omega
  ·rcases List.mem_cons.1 hp with rfl | hp
   ·have := hB2.1; simp only; omega
   ·exact hd.1 p hp
/-- a key of 187 and 3 -/
def PKy : Fact := fun v b e W => ∃ na nk ea ek, v = .agg #[.slice na (len 187) nk, .slice ea (len 3) ek] ∧ Hid (Nn.Nt W (.slice na (len 187) nk) 187)
theorem PKy.st : PKy.Stable := fun _ _ _ _ _ ⟨na, nk, ea, ek, h1, h2⟩ hb => ⟨na, nk, ea, ek, h1, Zh (h2.out.below' hb)⟩
def PMk : Fact := fun v b e W => ∃ na nk ea ek da dk, v = .tuple #[.agg #[.slice na (len 187) nk, .slice ea (len 3) ek], .agg #[.slice da (len 107) dk], .int .i64 0] ∧ Hid (Nn.Nt W (.slice na (len 187) nk) 187) ∧ Hid (Nn.Nt W (.slice da (len 107) dk) 107)
theorem PMk.st : PMk.Stable := fun _ _ _ _ _ ⟨na, nk, ea, ek, da, dk, h1, h2, h3⟩ hb => ⟨na, nk, ea, ek, da, dk, h1, Zh (h2.out.below' hb), Zh (h3.out.below' hb)⟩
namespace Pri
theorem f1 : facN 1 = some [] := by
 have a1 : facs 2 1 = ([], 1) := facs_out (by decide)
 rw [facN_one (by rw [a1]), a1]
theorem f4 : facN 4 = some [2, 2] := by
 have p1 : pull 2 1 = ([], 1) := pull_no (by decide)
 have p2 : pull 2 2 = ([2], 1) := by rw [pull_yes (by decide) (by decide) (by decide), show 2 / 2 = 1 from rfl, p1]
 have p4 : pull 2 4 = ([2, 2], 1) := by rw [pull_yes (by decide) (by decide) (by decide), show 4 / 2 = 2 from rfl, p2]
 have a3 : facs 3 1 = ([], 1) := facs_out (by decide)
 have a4 : facs 2 4 = ([2, 2], 1) := by rw [facs_in (by decide) (by decide), p4, show 2 + 1 = 3 from rfl, a3]; rfl
 rw [facN_one (by rw [a4]), a4]
theorem f10 : facN 10 = some [2, 5] := by
 have p5 : pull 2 5 = ([], 5) := pull_no (by decide)
 have p10 : pull 2 10 = ([2], 5) := by rw [pull_yes (by decide) (by decide) (by decide), show 10 / 2 = 5 from rfl, p5]
 have a5 : facs 3 5 = ([], 5) := facs_out (by decide)
 have a10 : facs 2 10 = ([2], 5) := by rw [facs_in (by decide) (by decide), p10, show 2 + 1 = 3 from rfl, a5]; rfl
 rw [facN_more (by rw [a10]; decide) (by rw [a10]; decide), a10]; rfl
theorem f16 : facN 16 = some [2, 2, 2, 2] := by
 have p1 : pull 2 1 = ([], 1) := pull_no (by decide)
 have p2 : pull 2 2 = ([2], 1) := by rw [pull_yes (by decide) (by decide) (by decide), show 2 / 2 = 1 from rfl, p1]
 have p4 : pull 2 4 = ([2, 2], 1) := by rw [pull_yes (by decide) (by decide) (by decide), show 4 / 2 = 2 from rfl, p2]
 have p8 : pull 2 8 = ([2, 2, 2], 1) := by rw [pull_yes (by decide) (by decide) (by decide), show 8 / 2 = 4 from rfl, p4]
 have p16 : pull 2 16 = ([2, 2, 2, 2], 1) := by rw [pull_yes (by decide) (by decide) (by decide), show 16 / 2 = 8 from rfl, p8]
 have a3 : facs 3 1 = ([], 1) := facs_out (by decide)
 have a16 : facs 2 16 = ([2, 2, 2, 2], 1) := by rw [facs_in (by decide) (by decide), p16, show 2 + 1 = 3 from rfl, a3]; rfl
 rw [facN_one (by rw [a16]), a16]
theorem r2 : RootR 2 [] 1 := ⟨by decide, by decide, rfl, fun j h1 h2 => by omega⟩
theorem r5 : RootR 5 [2, 2] 2 := ⟨by decide, by decide, by decide, fun j h1 h2 => by
 have : j = 1 := by omega
 subst this; decide⟩
theorem r11 : RootR 11 [2, 5] 2 := ⟨by decide, by decide, by decide, fun j h1 h2 => by
 have : j = 1 := by omega
 subst this; decide⟩
theorem r17 : RootR 17 [2, 2, 2, 2] 3 := ⟨by decide, by decide, by decide, fun j h1 h2 => by
 have : j = 1 ∨ j = 2 := by omega
 rcases this with rfl | rfl <;> decide⟩
end Pri
def ct2 : Ct := .mk 2 1 []
def ct5 : Ct := .mk 5 2 [ct2, ct2]
def ct11 : Ct := .mk 11 2 [ct2, ct5]
def ct17 : Ct := .mk 17 3 [ct2, ct2, ct2, ct2]
theorem do2 (d : Nat) : CtDo (d + 1) ct2 := ⟨⟨⟨⟨by decide, by decide⟩, ⟨by decide, by decide⟩⟩, by decide, by decide, Pri.f1, Pri.r2⟩, ⟨fun i h => (by cases h), by decide⟩⟩
theorem do5 (d : Nat) : CtDo (d + 2) ct5 := ⟨⟨⟨⟨by decide, by decide⟩, ⟨by decide, by decide⟩⟩, by decide, by decide, Pri.f4, Pri.r5⟩, fun i h => (by
 have h2 : i < 2 := h
 rcases (by omega : i = 0 ∨ i = 1) with rfl | rfl <;> exact do2 d), by decide⟩
theorem do11 : CtDo 3 ct11 := ⟨⟨⟨⟨by decide, by decide⟩, ⟨by decide, by decide⟩⟩, by decide, by decide, Pri.f10, Pri.r11⟩, fun i h => (by
 have h2 : i < 2 := h
 rcases (by omega : i = 0 ∨ i = 1) with rfl | rfl
 ·exact do2 1
 ·exact do5 0), by decide⟩
theorem do17 : CtDo 3 ct17 := ⟨⟨⟨⟨by decide, by decide⟩, ⟨by decide, by decide⟩⟩, by decide, by decide, Pri.f16, Pri.r17⟩, fun i h => (by
 have h2 : i < 4 := h
 rcases (by omega : i = 0 ∨ i = 1 ∨ i = 2 ∨ i = 3) with rfl | rfl | rfl | rfl <;> exact do2 1), by decide⟩
theorem part_ok {N R L M q S : Nat} (h1 : L / M = q) (h2 : R ^ q % N = S) (h3 : One S) (h4 : One M) (h5 : One q) (h6 : S ≠ 1) : PartOk N R L M := ⟨q, S, h1, h2, h3, h4, h5, h6⟩
theorem ok2 (d : Nat) : CtOk (d + 1) ct2 := ⟨⟨⟨⟨by decide, by decide⟩, ⟨by decide, by decide⟩, ⟨by decide, by decide⟩⟩, by decide, by decide, rfl, rfl, rfl, fun M h => by cases h⟩, rfl, fun k hk => (by
  obtain rfl : k = 0 := by have : k ≤ 0 := hk; omega
  exact ⟨⟨by decide, by decide⟩, by decide⟩), fun j h => absurd h (Nat.not_lt_zero _), fun i h => (by cases h), by decide⟩
theorem ok5 (d : Nat) : CtOk (d + 2) ct5 := ⟨⟨⟨⟨by decide, by decide⟩, ⟨by decide, by decide⟩, ⟨by decide, by decide⟩⟩, by decide, by decide, rfl, rfl, rfl, fun M h => (by
   have h2 : M ∈ [2, 2] := h
   simp only [List.mem_cons, List.not_mem_nil, or_false, or_self] at h2
   subst h2
   exact part_ok (q := 2) (S := 4) rfl rfl ⟨by decide, by decide⟩ ⟨by decide, by decide⟩ ⟨by decide, by decide⟩ (by decide))⟩, rfl, fun k hk => (by
  have : k ≤ 2 := hk
  rcases (by omega : k = 0 ∨ k = 1 ∨ k = 2) with rfl | rfl | rfl <;> exact ⟨⟨by decide, by decide⟩, by decide⟩), fun j h => (by
  have : j + 1 < 2 := h
  obtain rfl : j = 0 := by omega
  exact (show (2 : Nat) ≤ 2 by decide)), fun i h => (by
  have h2 : i < 2 := h
  rcases (by omega : i = 0 ∨ i = 1) with rfl | rfl <;> exact ok2 d), by decide⟩
theorem ok11 : CtOk 3 ct11 := ⟨⟨⟨⟨by decide, by decide⟩, ⟨by decide, by decide⟩, ⟨by decide, by decide⟩⟩, by decide, by decide, rfl, rfl, rfl, fun M h => (by
   have h2 : M ∈ [2, 5] := h
   simp only [List.mem_cons, List.not_mem_nil, or_false] at h2
   rcases h2 with rfl | rfl
   ·exact part_ok (q := 5) (S := 10) rfl rfl ⟨by decide, by decide⟩ ⟨by decide, by decide⟩ ⟨by decide, by decide⟩ (by decide)
   ·exact part_ok (q := 2) (S := 4) rfl rfl ⟨by decide, by decide⟩ ⟨by decide, by decide⟩ ⟨by decide, by decide⟩ (by decide))⟩, rfl, fun k hk => (by
  have : k ≤ 2 := hk
  rcases (by omega : k = 0 ∨ k = 1 ∨ k = 2) with rfl | rfl | rfl <;> exact ⟨⟨by decide, by decide⟩, by decide⟩), fun j h => (by
  have : j + 1 < 2 := h
  obtain rfl : j = 0 := by omega
  exact (show (2 : Nat) ≤ 5 by decide)), fun i h => (by
  have h2 : i < 2 := h
  rcases (by omega : i = 0 ∨ i = 1) with rfl | rfl
  ·exact ok2 1
  ·exact ok5 0), by decide⟩
theorem ok17 : CtOk 3 ct17 := ⟨⟨⟨⟨by decide, by decide⟩, ⟨by decide, by decide⟩, ⟨by decide, by decide⟩⟩, by decide, by decide, rfl, rfl, rfl, fun M h => (by
   have h2 : M ∈ [2, 2, 2, 2] := h
   simp only [List.mem_cons, List.not_mem_nil, or_false, or_self] at h2
   subst h2
   exact part_ok (q := 8) (S := 16) rfl rfl ⟨by decide, by decide⟩ ⟨by decide, by decide⟩ ⟨by decide, by decide⟩ (by decide))⟩, rfl, fun k hk => (by
  have : k ≤ 4 := hk
  rcases (by omega : k = 0 ∨ k = 1 ∨ k = 2 ∨ k = 3 ∨ k = 4) with rfl | rfl | rfl | rfl | rfl <;> exact ⟨⟨by decide, by decide⟩, by decide⟩), fun j h => (by
  have : j + 1 < 4 := h
  rcases (by omega : j = 0 ∨ j = 1 ∨ j = 2) with rfl | rfl | rfl <;> exact (show (2 : Nat) ≤ 2 by decide)), fun i h => (by
  have h2 : i < 4 := h
  rcases (by omega : i = 0 ∨ i = 1 ∨ i = 2 ∨ i = 3) with rfl | rfl | rfl | rfl <;> exact ok2 1), by decide⟩
theorem sz2 (d : Nat) : Ct.sz (d + 1) ct2 = 1 := by show Ct.szk (d + 1) ct2 0 = 1; exact Ct.szk_zero
theorem sz5 (d : Nat) : Ct.sz (d + 2) ct5 = 3 := by
 show Ct.szk (d + 2) ct5 2 = 3
 rw [Ct.szk_succ (show 1 < ct5.parts.length by decide), Ct.szk_succ (show 0 < ct5.parts.length by decide), Ct.szk_zero]
 show 1 + Ct.sz (d + 1) ct2 + Ct.sz (d + 1) ct2 = 3
 rw [sz2]
theorem sz11 : Ct.sz 3 ct11 = 5 := by
 show Ct.szk 3 ct11 2 = 5
 rw [Ct.szk_succ (show 1 < ct11.parts.length by decide), Ct.szk_succ (show 0 < ct11.parts.length by decide), Ct.szk_zero]
 show 1 + Ct.sz 2 ct2 + Ct.sz 2 ct5 = 5
 rw [sz2, sz5]
theorem sz17 : Ct.sz 3 ct17 = 5 := by
 show Ct.szk 3 ct17 4 = 5
 rw [Ct.szk_succ (show 3 < ct17.parts.length by decide), Ct.szk_succ (show 2 < ct17.parts.length by decide), Ct.szk_succ (show 1 < ct17.parts.length by decide), Ct.szk_succ (show 0 < ct17.parts.length by decide), Ct.szk_zero]
 show 1 + Ct.sz 2 ct2 + Ct.sz 2 ct2 + Ct.sz 2 ct2 + Ct.sz 2 ct2 = 5
 rw [sz2]
theorem cmp_lit {N M : Nat} {t : Bool} (h : decide (N = M) = t) : ∃ c : Int, Nn.NatMath.cmp N M = c ∧ (c == 0) = t := ⟨_, rfl, by rw [Nn.NatMath.cmp_zero_iff, h]⟩
theorem vld_lit {N : Nat} (h : N < 4294967296) : vld (digs N) = true := by rw [Nn.vld_digs, decide_eq_true (len_small h)]
theorem inv3 : Nn.NatMath.invV 3 160 = 107 ∧ decide (Nn.NatMath.invG 3 160 = 1) = true := by
 have hg : Nat.gcd 3 160 = 1 := by decide
 refine ⟨?_, by rw [Nn.NatMath.invG_eq (by decide), hg]; rfl⟩
 have h1 := Nn.NatMath.invV_lt (a := 3) (m := 160) (by decide)
 have h2 := Nn.NatMath.invV_mul (a := 3) (m := 160) (by decide) hg
 omega
theorem Make_c {pna pra pza qna qra qza ea : Option Addr} {pnk prk pzk qnk qrk qzk ek : Nat} {w : World} (he : Sl w (.slice ea (len 3) ek) (digs 3)) (hp : Fct.at w (fun _ => True) (.gn (gCt 3 ct11 (.slice pna 1 pnk) (.slice pra 1 prk) (.slice pza 2 pzk)))) (hq : Fct.at w (fun _ => True) (.gn (gCt 3 ct17 (.slice qna 1 qnk) (.slice qra 1 qrk) (.slice qza 4 qzk))))  :
  Calls Tryz.prog 32 #[.agg #[.slice pna 1 pnk, .slice pra 1 prk, .slice pza 2 pzk], .agg #[.slice qna 1 qnk, .slice qra 1 qrk, .slice qza 4 qzk], .agg #[.slice ea (len 3) ek]] w fun e w' => (∃ na nk ea ek da dk, e = .returned (.tuple #[.agg #[.slice na (len 187) nk, .slice ea (len 3) ek], .agg #[.slice da (len 107) dk], .int .i64 0]) ∧ Hid (Nn.Nt w' (.slice na (len 187) nk) 187) ∧ Hid (Nn.Nt w' (.slice da (len 107) dk) 107)) ∧ Below w.heap.size w w' := by
 have E0 := Zh ((((Env.start (fun _ => True) w).arg (.gn (gCt 3 ct11 (.slice pna 1 pnk) (.slice pra 1 prk) (.slice pza 2 pzk))) hp).arg (.gn (gCt 3 ct17 (.slice qna 1 qnk) (.slice qra 1 qrk) (.slice qza 4 qzk))) hq).argS he)
 clear he hp hq
 go_enter Tryz.func32, Tryz.ntmps32
 obtain ⟨c1, hc1, tc1⟩ := cmp_lit (N := 11) (M := 17) (t := false) (by decide)
 have Hc1 := Zh hc1
 clear hc1
 obtain ⟨c2, hc2, tc2⟩ := cmp_lit (N := 11) (M := 2) (t := false) (by decide)
 have Hc2 := Zh hc2
 clear hc2
 obtain ⟨c3, hc3, tc3⟩ := cmp_lit (N := 17) (M := 2) (t := false) (by decide)
 have Hc3 := Zh hc3
 clear hc3
 obtain ⟨nb, hnb⟩ : ∃ nb, Nn.NatMath.bl 187 = nb := ⟨_, rfl⟩
 have hb9 : nb ≤ 8 := by rw [← hnb]; exact Nn.NatMath.bl_le_iff.2 (by decide)
 have HNB := Zh hnb
 have t1 : decide ((512 : Int) < (nb : Int)) = false := decide_eq_false (by omega)
 have t2 : decide (512 < nb) = false := decide_eq_false (by omega)
 clear hnb hb9
 go_wp2_with fail
 have E1 := Zh ((((((E0.out.push 57 [.slice pna 1 pnk, .slice pra 1 prk, .slice pza 2 pzk] (w.heap.size) (by simp)).push 57 [.slice qna 1 qnk, .slice qra 1 qrk, .slice qza 4 qzk] (w.heap.size + 1) (by simp)).push 24 [.slice ea (len 3) ek] (w.heap.size + 1 + 1) (by simp)).push 26 [.slice none 0 0, .slice none 0 0] (w.heap.size + 1 + 1 + 1) (by simp)).push 24 [.slice none 0 0] (w.heap.size + 1 + 1 + 1 + 1) (by simp)))
 refine (small_c 2 (by decide)).mono ?_
 rintro e w1 ⟨⟨ta, tk, rfl, th⟩, hb⟩
 have E2 := Zh ((E1.out.below hb).noteS th.out rfl)
 clear E0 E1 hb th
 have E3 := Zh ((E2.out.push 24 [.slice ta (len 2) tk] (w1.heap.size) (by simp)))
 have b1 := E3.out.bx 5 rfl
 have c1_0 := b1.cell 0 rfl
 have c1_1 := b1.cell 1 rfl
 have c1_2 := b1.cell 2 rfl
 clear b1
 go_wp2_with fail
 refine (Verify_g 3 ct11 (E3.out.fc 3 rfl) 5 sz11 (by decide) (by decide) ok11).mono ?_
 rintro e w2 ⟨rfl, hb⟩
 have E4 := Zh (E3.out.below hb)
 clear c1_0 c1_1 c1_2 E2 E3 hb
 have b2 := E4.out.bx 4 rfl
 have c2_0 := b2.cell 0 rfl
 have c2_1 := b2.cell 1 rfl
 have c2_2 := b2.cell 2 rfl
 clear b2
 go_wp2_with fail
 refine (Verify_g 3 ct17 (E4.out.fc 2 rfl) 5 sz17 (by decide) (by decide) ok17).mono ?_
 rintro e w3 ⟨rfl, hb⟩
 have E5 := Zh (E4.out.below hb)
 clear c2_0 c2_1 c2_2 E4 hb
 have b3 := E5.out.bx 3 rfl
 have c3_0 := b3.cell 0 rfl
 clear b3
 have E6 := Zh ((E5.out.push 24 [.slice ea (len 3) ek] (w3.heap.size) (by simp)))
 go_wp2_with fail
 refine (valid_c [digs 3] (xb := w3.heap.size) (xo := 0) (xk := 1) (gNs.box (E6.out.bx 0 rfl) ⟨(gS.sl (E6.out.fc 1 rfl)), trivial⟩) (t := true) (by rw [List.all_cons, vld_lit (by decide)]; rfl) (by simp)).mono ?_
 rintro e w4 ⟨rfl, hb⟩
 have E7 := Zh (E6.out.below hb)
 clear c3_0 E5 E6 hb
 have b4 := E7.out.bx 6 rfl
 have c4_0 := b4.cell 0 rfl
 clear b4
 have b5 := E7.out.bx 5 rfl
 have c5_0 := b5.cell 0 rfl
 clear b5
 go_wp2_with fail
 refine (Nn.compareF Hc1.out (nt_of (gCt.n (E7.out.fc 3 rfl)) ⟨by decide, by decide⟩ : Nn.Nt _ _ 11) (nt_of (gCt.n (E7.out.fc 2 rfl)) ⟨by decide, by decide⟩ : Nn.Nt _ _ 17) (len_small (by decide)) (len_small (by decide))).mono ?_
 rintro e w5 ⟨rfl, hb⟩
 have E8 := Zh (E7.out.below hb)
 clear c4_0 c5_0 E7 hb
 have b6 := E8.out.bx 6 rfl
 have c6_0 := b6.cell 0 rfl
 clear b6
 have b7 := E8.out.bx 1 rfl
 have c7_0 := b7.cell 0 rfl
 clear b7
 go_wp2_with fail
 refine (Nn.compareF Hc2.out (nt_of (gCt.n (E8.out.fc 3 rfl)) ⟨by decide, by decide⟩ : Nn.Nt _ _ 11) (gS.sl (E8.out.fc 0 rfl)) (len_small (by decide)) (len_small (by decide))).mono ?_
 rintro e w6 ⟨rfl, hb⟩
 have E9 := Zh (E8.out.below hb)
 clear c6_0 c7_0 E8 hb
 have b8 := E9.out.bx 5 rfl
 have c8_0 := b8.cell 0 rfl
 clear b8
 have b9 := E9.out.bx 1 rfl
 have c9_0 := b9.cell 0 rfl
 clear b9
 go_wp2_with fail
 refine (Nn.compareF Hc3.out (nt_of (gCt.n (E9.out.fc 2 rfl)) ⟨by decide, by decide⟩ : Nn.Nt _ _ 17) (gS.sl (E9.out.fc 0 rfl)) (len_small (by decide)) (len_small (by decide))).mono ?_
 rintro e w7 ⟨rfl, hb⟩
 have E10 := Zh (E9.out.below hb)
 clear c8_0 c9_0 E9 hb
 have b10 := E10.out.bx 6 rfl
 have c10_0 := b10.cell 0 rfl
 clear b10
 have b11 := E10.out.bx 5 rfl
 have c11_0 := b11.cell 0 rfl
 clear b11
 go_wp2_with fail
 refine (Nn.mulF (S := 187) rfl (len_small (by decide)) (nt_of (gCt.n (E10.out.fc 3 rfl)) ⟨by decide, by decide⟩ : Nn.Nt _ _ 11) (nt_of (gCt.n (E10.out.fc 2 rfl)) ⟨by decide, by decide⟩ : Nn.Nt _ _ 17) (len_small (by decide)) (len_small (by decide))).mono ?_
 rintro e w8 ⟨⟨na, nk, rfl, nh⟩, hb⟩
 have E11 := Zh ((E10.out.below hb).noteS nh.out rfl)
 clear c10_0 c11_0 E10 hb nh
 have E12 := Zh ((E11.out.push 24 [.slice na (len 187) nk] (w8.heap.size) (by simp)))
 go_wp2_with fail
 refine (Nn.bitsF HNB.out (len_small (by decide)) (gS.sl (E12.out.fc 0 rfl))).mono ?_
 rintro e w9 ⟨rfl, hb⟩
 have E13 := Zh (E12.out.below hb)
 clear E11 E12 hb
 go_wp2_with fail
 refine' wp_region_phaseW (by kernel_rfl) [0, 1, 2, 3, 4, 5, 7] [6] (by kernel_rfl) #[true, true, true, true, true, true, true, true, false, false] (by kernel_rfl) 2 (by kernel_rfl) [Nn.PEq (.pointer (some ⟨w.heap.size, 0, none⟩)), Nn.PEq (.agg #[.slice pna 1 pnk]), Nn.PNum 1, Nn.PTup 10 (.int .i64 0), Nn.PTup 10 (.int .i64 0), Nn.PNum 10, Nn.PEq (.int .i64 0), PBx w9.heap.size 24 [.slice none 0 0], Fact.none, Fact.none] (List.forall_mem_cons.2 ⟨Nn.PEq.st _, List.forall_mem_cons.2 ⟨Nn.PEq.st _, List.forall_mem_cons.2 ⟨Nn.PNum.st _, List.forall_mem_cons.2 ⟨Nn.PTup.st _ _, List.forall_mem_cons.2 ⟨Nn.PTup.st _ _, List.forall_mem_cons.2 ⟨Nn.PNum.st _, List.forall_mem_cons.2 ⟨Nn.PEq.st _, List.forall_mem_cons.2 ⟨PBx.st _ _ _, List.forall_mem_cons.2 ⟨Fact.none_st, List.forall_mem_cons.2 ⟨Fact.none_st, List.forall_mem_nil _⟩⟩⟩⟩⟩⟩⟩⟩⟩⟩) _ ?hFq1 ?stepq1 ?lateq1 ?doneq1
 case hFq1 => intro x; simp only [frameL, Act.put, List.setIfInBounds_toArray, List.set_cons_zero, List.set_cons_succ, Nat.zero_add, Nat.reduceAdd]; exact rfl
 case stepq1 =>
  show ∀ i ∈ [6, 0, 1, 2, 3, 4, 5, 7], _
  refine List.forall_mem_cons.2 ⟨?_, ?_⟩
  ·intro xv bv ev WW hB hdp
   refine Nn.op_of rfl ?_
   obtain ⟨aa, ak, ed4, ha⟩ := (show (Nn.PTup 10 (.int .i64 0)) (xv 4) (bv 4) (ev 4) WW from hdp 4 (by kernel_rfl))
   clear hdp
   intro KK hKK
   go_simp
   exact Nn.act_eq (hKK.out _ _ (Below.refl _ _) rfl) (by first | rfl | simp [upd, ed4])
  refine List.forall_mem_cons.2 ⟨?_, ?_⟩
  ·intro xv bv ev WW hB hdp
   refine Nn.op_of rfl ?_
   clear hdp
   intro KK hKK
   go_simp
   exact Nn.act_eq (hKK.out _ _ (Below.refl _ _) rfl) (by first | rfl | simp [upd])
  refine List.forall_mem_cons.2 ⟨?_, ?_⟩
  ·intro xv bv ev WW hB hdp
   refine Nn.op_of rfl ?_
   have ed0 : xv 0 = .pointer (some ⟨w.heap.size, 0, none⟩) := hdp 0 (by kernel_rfl)
   clear hdp
   intro KK hKK
   have z0 := ((E13.out.below hB).bx 7 rfl).cell 0 rfl
   go_simp
   exact Nn.act_eq (hKK.out (.agg #[.slice pna 1 pnk]) _ (Below.refl _ _) rfl) (by first | rfl | simp [upd, ed0])
  refine List.forall_mem_cons.2 ⟨?_, ?_⟩
  ·intro xv bv ev WW hB hdp
   refine Nn.op_of rfl ?_
   clear hdp
   intro KK hKK
   go_simp
   refine (one_c).mono ?_
   rintro e WW' ⟨⟨ua, uk, rfl, hu⟩, hb⟩
   (try dsimp only)
   (try simp only [Act.put, pq0, pq1, pq2])
   exact Nn.act_eq (hKK.out _ _ hb ⟨_, _, rfl, hu⟩) (by first | rfl | simp [upd])
  refine List.forall_mem_cons.2 ⟨?_, ?_⟩
  ·intro xv bv ev WW hB hdp
   refine Nn.op_of rfl ?_
   have ed1 : xv 1 = .agg #[.slice pna 1 pnk] := hdp 1 (by kernel_rfl)
   obtain ⟨ua, uk, ed2, hu⟩ := (show (Nn.PNum 1) (xv 2) (bv 2) (ev 2) WW from hdp 2 (by kernel_rfl))
   clear hdp
   intro KK hKK
   go_simp
   refine (Nn.subF (S := 10) rfl (by decide) (nt_of (gCt.n ((E13.out.below hB).fc 4 rfl)) ⟨by decide, by decide⟩ : Nn.Nt _ _ 11) hu.out (len_small (by decide)) (len_small (by decide))).mono ?_
   rintro e WW' ⟨⟨aa, ak, rfl, ha⟩, hb⟩
   (try dsimp only)
   (try simp only [Act.put, pq0, pq1, pq2])
   exact Nn.act_eq (hKK.out _ _ hb ⟨_, _, rfl, ha⟩) (by first | rfl | simp [upd, ed1, ed2])
  refine List.forall_mem_cons.2 ⟨?_, ?_⟩
  ·intro xv bv ev WW hB hdp
   refine Nn.op_of rfl ?_
   obtain ⟨aa, ak, ed3, ha⟩ := (show (Nn.PTup 10 (.int .i64 0)) (xv 3) (bv 3) (ev 3) WW from hdp 3 (by kernel_rfl))
   clear hdp
   intro KK hKK
   go_simp
   exact Nn.act_eq (hKK.out _ _ (Below.refl _ _) ⟨_, _, rfl, ha⟩) (by first | rfl | simp [upd, ed3])
  refine List.forall_mem_cons.2 ⟨?_, ?_⟩
  ·intro xv bv ev WW hB hdp
   refine Nn.op_of rfl ?_
   obtain ⟨aa, ak, ed4, ha⟩ := (show (Nn.PTup 10 (.int .i64 0)) (xv 4) (bv 4) (ev 4) WW from hdp 4 (by kernel_rfl))
   clear hdp
   intro KK hKK
   go_simp
   exact Nn.act_eq (hKK.out _ _ (Below.refl _ _) ⟨_, _, rfl, ha⟩) (by first | rfl | simp [upd, ed4])
  refine List.forall_mem_cons.2 ⟨?_, ?_⟩
  ·intro xv bv ev WW hB hdp
   refine Nn.op_of rfl ?_
   clear hdp
   intro KK hKK
   go_simp
   exact Nn.act_eq (hKK.out (.pointer (some ⟨WW.heap.size, 0, none⟩)) _ (Nn.below_one _ _) (PBx.mk hB rfl 24 [.slice none 0 0])) (by first | rfl | simp [upd])
  exact List.forall_mem_nil _
 case lateq1 =>
  intro V hV hne
  rcases (show V = [] ∨ V = [6] by simpa [subs] using hV) with rfl | rfl
  ·intro xv bv ev WW hB hR
   obtain ⟨aa, ak, ed4, ha⟩ := (show (Nn.PTup 10 (.int .i64 0)) (xv 4) (bv 4) (ev 4) WW from hR 4 (by kernel_rfl))
   refine ⟨6, .int .i64 0, ⟨by decide, by decide⟩, rfl, fun fl hw => ?_⟩
   refine Nn.takeP (i := 6) (some 88) (v := .int .i64 0) rfl rfl (by kernel_rfl) (by kernel_rfl) (by kernel_rfl) (fun _ _ _ h => h) (by rfl) ?_ ?_
   ·(intro wS; go_simp; try with_reducible rfl)
   exact hw
  ·exact absurd rfl hne
 intro xv bv ev w10 hB hR hO
 have ed0 : xv 0 = .pointer (some ⟨w.heap.size, 0, none⟩) := hR 0 (by kernel_rfl)
 have ed1 : xv 1 = .agg #[.slice pna 1 pnk] := hR 1 (by kernel_rfl)
 obtain ⟨ua, uk, ed2, hu⟩ := (show (Nn.PNum 1) (xv 2) (bv 2) (ev 2) w10 from hR 2 (by kernel_rfl))
 obtain ⟨aa, ak, ed5, ha⟩ := (show (Nn.PNum 10) (xv 5) (bv 5) (ev 5) w10 from hR 5 (by kernel_rfl))
 have ed6 : xv 6 = .int .i64 0 := hR 6 (by kernel_rfl)
 obtain ⟨ag, ed7, hl7, hr7, hX7⟩ := (show (PBx w9.heap.size 24 [.slice none 0 0]) (xv 7) (bv 7) (ev 7) w10 from hR 7 (by kernel_rfl))
 simp only [ed0, ed1, ed2, ed5, ed6, ed7]
 have E14 := Zh (((E13.out.gotBox hB hX7).noteS hu.out rfl).noteS ha.out rfl)
 clear hB hR hO ed0 ed1 ed2 ed5 ed6 ed7 hu ha hl7 hr7 hX7 E13
 have b12 := E14.out.bx 0 rfl
 have c12_0 := b12.cell 0 rfl
 have f12_0 := b12.frozen 0
 clear b12
 refine wpAny_next (i := 8) (by kernel_rfl) rfl (fun KK hKK => ?_)
 go_simp
 have E15 : Hid (Env (fun _ => True) w [(ag, 24, [.slice aa (len 10) ak]), (w8.heap.size, 24, [.slice na (len 187) nk]), (w3.heap.size, 24, [.slice ea (len 3) ek]), (w1.heap.size, 24, [.slice ta (len 2) tk]), (w.heap.size + 1 + 1 + 1 + 1, 24, [.slice none 0 0]), (w.heap.size + 1 + 1 + 1, 26, [.slice none 0 0, .slice none 0 0]), (w.heap.size + 1 + 1, 24, [.slice ea (len 3) ek]), (w.heap.size + 1, 57, [.slice qna 1 qnk, .slice qra 1 qrk, .slice qza 4 qzk]), (w.heap.size, 57, [.slice pna 1 pnk, .slice pra 1 prk, .slice pza 2 pzk])] [.gn (gS (.slice aa (len 10) ak) (digs 10)), .gn (gS (.slice ua (len 1) uk) (digs 1)), .gn (gS (.slice na (len 187) nk) (digs 187)), .gn (gS (.slice ta (len 2) tk) (digs 2)), .gn (gS (.slice ea (len 3) ek) (digs 3)), .gn (gCt 3 ct17 (.slice qna 1 qnk) (.slice qra 1 qrk) (.slice qza 4 qzk)), .gn (gCt 3 ct11 (.slice pna 1 pnk) (.slice pra 1 prk) (.slice pza 2 pzk))] _) := Zh ((E14.out.set 0 0 (.slice aa (len 10) ak) rfl))
 refine hKK.out _ _ ?_
 clear hKK KK
 refine wpAny_next (i := 9) (by kernel_rfl) rfl (fun KK hKK => ?_)
 go_simp
 refine hKK.out _ _ ?_
 clear hKK KK
 refine wpAny_done (by kernel_rfl) ?_ _
 go_wp2_with fail
 clear c12_0 f12_0 E14
 generalize w10.setCell ⟨ag, 0, none⟩ (.slice aa (len 10) ak) = w11 at *
 refine' wp_region_phaseW (by kernel_rfl) [0, 1, 2, 3, 4, 5, 7] [6] (by kernel_rfl) #[true, true, true, true, true, true, true, true, false, false] (by kernel_rfl) 2 (by kernel_rfl) [Nn.PEq (.pointer (some ⟨w.heap.size + 1, 0, none⟩)), Nn.PEq (.agg #[.slice qna 1 qnk]), Nn.PNum 1, Nn.PTup 16 (.int .i64 0), Nn.PTup 16 (.int .i64 0), Nn.PNum 16, Nn.PEq (.int .i64 0), PBx w11.heap.size 24 [.slice none 0 0], Fact.none, Fact.none] (List.forall_mem_cons.2 ⟨Nn.PEq.st _, List.forall_mem_cons.2 ⟨Nn.PEq.st _, List.forall_mem_cons.2 ⟨Nn.PNum.st _, List.forall_mem_cons.2 ⟨Nn.PTup.st _ _, List.forall_mem_cons.2 ⟨Nn.PTup.st _ _, List.forall_mem_cons.2 ⟨Nn.PNum.st _, List.forall_mem_cons.2 ⟨Nn.PEq.st _, List.forall_mem_cons.2 ⟨PBx.st _ _ _, List.forall_mem_cons.2 ⟨Fact.none_st, List.forall_mem_cons.2 ⟨Fact.none_st, List.forall_mem_nil _⟩⟩⟩⟩⟩⟩⟩⟩⟩⟩) _ ?hFq2 ?stepq2 ?lateq2 ?doneq2
 case hFq2 => intro x; simp only [frameL, Act.put, List.setIfInBounds_toArray, List.set_cons_zero, List.set_cons_succ, Nat.zero_add, Nat.reduceAdd]; exact rfl
 case stepq2 =>
  show ∀ i ∈ [6, 0, 1, 2, 3, 4, 5, 7], _
  refine List.forall_mem_cons.2 ⟨?_, ?_⟩
  ·intro xv bv ev WW hB hdp
   refine Nn.op_of rfl ?_
   obtain ⟨ca, ck, ed4, hc⟩ := (show (Nn.PTup 16 (.int .i64 0)) (xv 4) (bv 4) (ev 4) WW from hdp 4 (by kernel_rfl))
   clear hdp
   intro KK hKK
   go_simp
   exact Nn.act_eq (hKK.out _ _ (Below.refl _ _) rfl) (by first | rfl | simp [upd, ed4])
  refine List.forall_mem_cons.2 ⟨?_, ?_⟩
  ·intro xv bv ev WW hB hdp
   refine Nn.op_of rfl ?_
   clear hdp
   intro KK hKK
   go_simp
   exact Nn.act_eq (hKK.out _ _ (Below.refl _ _) rfl) (by first | rfl | simp [upd])
  refine List.forall_mem_cons.2 ⟨?_, ?_⟩
  ·intro xv bv ev WW hB hdp
   refine Nn.op_of rfl ?_
   have ed0 : xv 0 = .pointer (some ⟨w.heap.size + 1, 0, none⟩) := hdp 0 (by kernel_rfl)
   clear hdp
   intro KK hKK
   have z0 := ((E15.out.below hB).bx 7 rfl).cell 0 rfl
   go_simp
   exact Nn.act_eq (hKK.out (.agg #[.slice qna 1 qnk]) _ (Below.refl _ _) rfl) (by first | rfl | simp [upd, ed0])
  refine List.forall_mem_cons.2 ⟨?_, ?_⟩
  ·intro xv bv ev WW hB hdp
   refine Nn.op_of rfl ?_
   clear hdp
   intro KK hKK
   go_simp
   refine (one_c).mono ?_
   rintro e WW' ⟨⟨va, vk, rfl, hv⟩, hb⟩
   (try dsimp only)
   (try simp only [Act.put, pq0, pq1, pq2])
   exact Nn.act_eq (hKK.out _ _ hb ⟨_, _, rfl, hv⟩) (by first | rfl | simp [upd])
  refine List.forall_mem_cons.2 ⟨?_, ?_⟩
  ·intro xv bv ev WW hB hdp
   refine Nn.op_of rfl ?_
   have ed1 : xv 1 = .agg #[.slice qna 1 qnk] := hdp 1 (by kernel_rfl)
   obtain ⟨va, vk, ed2, hv⟩ := (show (Nn.PNum 1) (xv 2) (bv 2) (ev 2) WW from hdp 2 (by kernel_rfl))
   clear hdp
   intro KK hKK
   go_simp
   refine (Nn.subF (S := 16) rfl (by decide) (nt_of (gCt.n ((E15.out.below hB).fc 5 rfl)) ⟨by decide, by decide⟩ : Nn.Nt _ _ 17) hv.out (len_small (by decide)) (len_small (by decide))).mono ?_
   rintro e WW' ⟨⟨ca, ck, rfl, hc⟩, hb⟩
   (try dsimp only)
   (try simp only [Act.put, pq0, pq1, pq2])
   exact Nn.act_eq (hKK.out _ _ hb ⟨_, _, rfl, hc⟩) (by first | rfl | simp [upd, ed1, ed2])
  refine List.forall_mem_cons.2 ⟨?_, ?_⟩
  ·intro xv bv ev WW hB hdp
   refine Nn.op_of rfl ?_
   obtain ⟨ca, ck, ed3, hc⟩ := (show (Nn.PTup 16 (.int .i64 0)) (xv 3) (bv 3) (ev 3) WW from hdp 3 (by kernel_rfl))
   clear hdp
   intro KK hKK
   go_simp
   exact Nn.act_eq (hKK.out _ _ (Below.refl _ _) ⟨_, _, rfl, hc⟩) (by first | rfl | simp [upd, ed3])
  refine List.forall_mem_cons.2 ⟨?_, ?_⟩
  ·intro xv bv ev WW hB hdp
   refine Nn.op_of rfl ?_
   obtain ⟨ca, ck, ed4, hc⟩ := (show (Nn.PTup 16 (.int .i64 0)) (xv 4) (bv 4) (ev 4) WW from hdp 4 (by kernel_rfl))
   clear hdp
   intro KK hKK
   go_simp
   exact Nn.act_eq (hKK.out _ _ (Below.refl _ _) ⟨_, _, rfl, hc⟩) (by first | rfl | simp [upd, ed4])
  refine List.forall_mem_cons.2 ⟨?_, ?_⟩
  ·intro xv bv ev WW hB hdp
   refine Nn.op_of rfl ?_
   clear hdp
   intro KK hKK
   go_simp
   exact Nn.act_eq (hKK.out (.pointer (some ⟨WW.heap.size, 0, none⟩)) _ (Nn.below_one _ _) (PBx.mk hB rfl 24 [.slice none 0 0])) (by first | rfl | simp [upd])
  exact List.forall_mem_nil _
 case lateq2 =>
  intro V hV hne
  rcases (show V = [] ∨ V = [6] by simpa [subs] using hV) with rfl | rfl
  ·intro xv bv ev WW hB hR
   obtain ⟨ca, ck, ed4, hc⟩ := (show (Nn.PTup 16 (.int .i64 0)) (xv 4) (bv 4) (ev 4) WW from hR 4 (by kernel_rfl))
   refine ⟨6, .int .i64 0, ⟨by decide, by decide⟩, rfl, fun fl hw => ?_⟩
   refine Nn.takeP (i := 6) (some 95) (v := .int .i64 0) rfl rfl (by kernel_rfl) (by kernel_rfl) (by kernel_rfl) (fun _ _ _ h => h) (by rfl) ?_ ?_
   ·(intro wS; go_simp; try with_reducible rfl)
   exact hw
  ·exact absurd rfl hne
 intro xv bv ev w12 hB hR hO
 have ed0 : xv 0 = .pointer (some ⟨w.heap.size + 1, 0, none⟩) := hR 0 (by kernel_rfl)
 have ed1 : xv 1 = .agg #[.slice qna 1 qnk] := hR 1 (by kernel_rfl)
 obtain ⟨va, vk, ed2, hv⟩ := (show (Nn.PNum 1) (xv 2) (bv 2) (ev 2) w12 from hR 2 (by kernel_rfl))
 obtain ⟨ca, ck, ed5, hc⟩ := (show (Nn.PNum 16) (xv 5) (bv 5) (ev 5) w12 from hR 5 (by kernel_rfl))
 have ed6 : xv 6 = .int .i64 0 := hR 6 (by kernel_rfl)
 obtain ⟨bg, ed7, hl7, hr7, hX7⟩ := (show (PBx w11.heap.size 24 [.slice none 0 0]) (xv 7) (bv 7) (ev 7) w12 from hR 7 (by kernel_rfl))
 simp only [ed0, ed1, ed2, ed5, ed6, ed7]
 have E16 := Zh (((E15.out.gotBox hB hX7).noteS hv.out rfl).noteS hc.out rfl)
 clear hB hR hO ed0 ed1 ed2 ed5 ed6 ed7 hv hc hl7 hr7 hX7 E15
 have b13 := E16.out.bx 0 rfl
 have c13_0 := b13.cell 0 rfl
 have f13_0 := b13.frozen 0
 clear b13
 refine wpAny_next (i := 8) (by kernel_rfl) rfl (fun KK hKK => ?_)
 go_simp
 have E17 : Hid (Env (fun _ => True) w [(bg, 24, [.slice ca (len 16) ck]), (ag, 24, [.slice aa (len 10) ak]), (w8.heap.size, 24, [.slice na (len 187) nk]), (w3.heap.size, 24, [.slice ea (len 3) ek]), (w1.heap.size, 24, [.slice ta (len 2) tk]), (w.heap.size + 1 + 1 + 1 + 1, 24, [.slice none 0 0]), (w.heap.size + 1 + 1 + 1, 26, [.slice none 0 0, .slice none 0 0]), (w.heap.size + 1 + 1, 24, [.slice ea (len 3) ek]), (w.heap.size + 1, 57, [.slice qna 1 qnk, .slice qra 1 qrk, .slice qza 4 qzk]), (w.heap.size, 57, [.slice pna 1 pnk, .slice pra 1 prk, .slice pza 2 pzk])] [.gn (gS (.slice ca (len 16) ck) (digs 16)), .gn (gS (.slice va (len 1) vk) (digs 1)), .gn (gS (.slice aa (len 10) ak) (digs 10)), .gn (gS (.slice ua (len 1) uk) (digs 1)), .gn (gS (.slice na (len 187) nk) (digs 187)), .gn (gS (.slice ta (len 2) tk) (digs 2)), .gn (gS (.slice ea (len 3) ek) (digs 3)), .gn (gCt 3 ct17 (.slice qna 1 qnk) (.slice qra 1 qrk) (.slice qza 4 qzk)), .gn (gCt 3 ct11 (.slice pna 1 pnk) (.slice pra 1 prk) (.slice pza 2 pzk))] _) := Zh ((E16.out.set 0 0 (.slice ca (len 16) ck) rfl))
 refine hKK.out _ _ ?_
 clear hKK KK
 refine wpAny_next (i := 9) (by kernel_rfl) rfl (fun KK hKK => ?_)
 go_simp
 refine hKK.out _ _ ?_
 clear hKK KK
 refine wpAny_done (by kernel_rfl) ?_ _
 have b14 := E17.out.bx 1 rfl
 have c14_0 := b14.cell 0 rfl
 clear b14
 have b15 := E17.out.bx 0 rfl
 have c15_0 := b15.cell 0 rfl
 clear b15
 go_wp2_with fail
 refine (Nn.mulF (S := 160) rfl (len_small (by decide)) (gS.sl (E17.out.fc 2 rfl)) (gS.sl (E17.out.fc 0 rfl)) (len_small (by decide)) (len_small (by decide))).mono ?_
 rintro e w13 ⟨⟨ha, hk, rfl, hh⟩, hb⟩
 have E18 := Zh ((E17.out.below hb).noteS hh.out rfl)
 clear c13_0 f13_0 c14_0 c15_0 E16 E17 hb hh
 go_wp2_with fail
 have E19 := Zh ((E18.out.push 24 [.slice ha (len 160) hk] (w13.heap.size) (by simp)))
 clear E18
 generalize w13.alloc (.cells #[.slice ha (len 160) hk] 24) = w14 at *
 have E20 := Zh E19.out.drew
 clear E19
 refine wp_regionU (S := fun w' => w'.cell? ⟨w.heap.size + 1 + 1, 0, none⟩ = some (.slice ea (len 3) ek) ∧ w'.cell? ⟨w13.heap.size, 0, none⟩ = some (.slice ha (len 160) hk)) [] (by kernel_rfl) (⟨((E20.out.bx 8 rfl).cell 0 rfl), ((E20.out.bx 0 rfl).cell 0 rfl)⟩) (fun hHeld => ?_)
 generalize w14.drew = w15 at *
 refine uTk (i := 0) (some 102) (v := ?_) ?_ ?_
 rotate_left
 ·(intro wS hSw; (try dsimp only at hSw); go_simp; try with_reducible rfl)
 try simp only [Act.put, pq0, pq1, pq2]
 refine uRd 1 (fun KK hKK => ?_)
 go_simp
 refine (small_c 3 (by decide)).mono ?_
 rintro e w16 ⟨⟨ga, gk, rfl, gh⟩, hb⟩
 have E21 := Zh ((E20.out.below hb).noteS gh.out rfl)
 clear E20 hb gh
 (try dsimp only)
 clear hHeld
 refine hKK.out _ _ (⟨((E21.out.bx 8 rfl).cell 0 rfl), ((E21.out.bx 0 rfl).cell 0 rfl)⟩) (fun hHeld => ?_)
 clear hKK KK
 try simp only [Act.put, pq0, pq1, pq2]
 refine uRd 2 (fun KK hKK => ?_)
 go_simp
 refine (vbelow_c (t := false) (by decide) (len_small (by decide)) (len_small (by decide)) (gS.sl (E21.out.fc 8 rfl)) (gS.sl (E21.out.fc 0 rfl))).mono ?_
 rintro e w17 ⟨rfl, hb⟩
 have E22 := Zh (E21.out.below hb)
 clear E21 hb
 (try dsimp only)
 clear hHeld
 refine hKK.out _ _ (⟨((E22.out.bx 8 rfl).cell 0 rfl), ((E22.out.bx 0 rfl).cell 0 rfl)⟩) (fun hHeld => ?_)
 clear hKK KK
 try simp only [Act.put, pq0, pq1, pq2]
 refine uPl [3, 4, 5] ?_
 iterate 3 (refine uTl (v := ?_) ?_ ?_; rotate_left; (focus (intro wS hSw; (try dsimp only at hSw); go_simp; try with_reducible rfl)); try simp only [Act.put, pq0, pq1, pq2])
 refine Pl.z ?_
 refine uRd 6 (fun KK hKK => ?_)
 go_simp
 refine (vbelow_c (t := true) (by decide) (len_small (by decide)) (len_small (by decide)) (gS.sl (E22.out.fc 8 rfl)) (gS.sl (E22.out.fc 1 rfl))).mono ?_
 rintro e w18 ⟨rfl, hb⟩
 have E23 := Zh (E22.out.below hb)
 clear E22 hb
 (try dsimp only)
 clear hHeld
 refine hKK.out _ _ (⟨((E23.out.bx 8 rfl).cell 0 rfl), ((E23.out.bx 0 rfl).cell 0 rfl)⟩) (fun hHeld => ?_)
 clear hKK KK
 try simp only [Act.put, pq0, pq1, pq2]
 refine uPl [7, 8] ?_
 iterate 2 (refine uTl (v := ?_) ?_ ?_; rotate_left; (focus (intro wS hSw; (try dsimp only at hSw); go_simp; try with_reducible rfl)); try simp only [Act.put, pq0, pq1, pq2])
 refine Pl.z ?_
 refine uDone (by kernel_rfl) ?_ _
 have b16 := E23.out.bx 8 rfl
 have c16_0 := b16.cell 0 rfl
 clear b16
 have b17 := E23.out.bx 0 rfl
 have c17_0 := b17.cell 0 rfl
 clear b17
 go_wp2_with fail
 refine (Nn.inv_m inv3.1 inv3.2 (by decide) (Nat.le_trans (Nn.NatMath.len_le_iff.2 (show 160 < Nn.NatMath.Bp 1 from by decide)) (by decide)) (gS.sl (E23.out.fc 8 rfl)) (gS.sl (E23.out.fc 1 rfl))).mono ?_
 rintro e w19 ⟨⟨da, dk, rfl, dh⟩, hb⟩
 have E24 := Zh ((E23.out.below hb).noteS dh.out rfl)
 clear c16_0 c17_0 E23 hb dh
 go_wp2_with fail
 have E25 := Zh ((E24.out.push 24 [.slice da (len 107) dk] (w19.heap.size) (by simp)))
 clear E24
 generalize w19.alloc (.cells #[.slice da (len 107) dk] 24) = w20 at *
 have E26 := Zh E25.out.drew
 clear E25
 refine wp_regionU (S := fun w' => w'.cell? ⟨w8.heap.size, 0, none⟩ = some (.slice na (len 187) nk) ∧ w'.cell? ⟨w.heap.size + 1 + 1, 0, none⟩ = some (.slice ea (len 3) ek) ∧ w'.cell? ⟨w19.heap.size, 0, none⟩ = some (.slice da (len 107) dk)) [] (by kernel_rfl) (⟨((E26.out.bx 4 rfl).cell 0 rfl), ((E26.out.bx 9 rfl).cell 0 rfl), ((E26.out.bx 0 rfl).cell 0 rfl)⟩) (fun hHeld => ?_)
 generalize w20.drew = w21 at *
 refine uPl [0, 1, 2, 3] ?_
 iterate 4 (refine uTl (v := ?_) ?_ ?_; rotate_left; (focus (intro wS hSw; (try dsimp only at hSw); go_simp; try with_reducible rfl)); try simp only [Act.put, pq0, pq1, pq2])
 refine Pl.z ?_
 have b18 := E26.out.bx 8 rfl
 have c18_0 := b18.cell 0 rfl
 have c18_1 := b18.cell 1 rfl
 have f18_0 := b18.frozen 0
 have f18_1 := b18.frozen 1
 clear b18
 refine uRd 4 (fun KK hKK => ?_)
 go_simp
 have E27 : Hid (Env (fun _ => True) w [(w19.heap.size, 24, [.slice da (len 107) dk]), (w13.heap.size, 24, [.slice ha (len 160) hk]), (bg, 24, [.slice ca (len 16) ck]), (ag, 24, [.slice aa (len 10) ak]), (w8.heap.size, 24, [.slice na (len 187) nk]), (w3.heap.size, 24, [.slice ea (len 3) ek]), (w1.heap.size, 24, [.slice ta (len 2) tk]), (w.heap.size + 1 + 1 + 1 + 1, 24, [.slice none 0 0]), (w.heap.size + 1 + 1 + 1, 26, [.slice na (len 187) nk, .slice ea (len 3) ek]), (w.heap.size + 1 + 1, 24, [.slice ea (len 3) ek]), (w.heap.size + 1, 57, [.slice qna 1 qnk, .slice qra 1 qrk, .slice qza 4 qzk]), (w.heap.size, 57, [.slice pna 1 pnk, .slice pra 1 prk, .slice pza 2 pzk])] [.gn (gS (.slice da (len 107) dk) (digs 107)), .gn (gS (.slice ga (len 3) gk) (digs 3)), .gn (gS (.slice ha (len 160) hk) (digs 160)), .gn (gS (.slice ca (len 16) ck) (digs 16)), .gn (gS (.slice va (len 1) vk) (digs 1)), .gn (gS (.slice aa (len 10) ak) (digs 10)), .gn (gS (.slice ua (len 1) uk) (digs 1)), .gn (gS (.slice na (len 187) nk) (digs 187)), .gn (gS (.slice ta (len 2) tk) (digs 2)), .gn (gS (.slice ea (len 3) ek) (digs 3)), .gn (gCt 3 ct17 (.slice qna 1 qnk) (.slice qra 1 qrk) (.slice qza 4 qzk)), .gn (gCt 3 ct11 (.slice pna 1 pnk) (.slice pra 1 prk) (.slice pza 2 pzk))] _) := Zh (((E26.out.set 8 0 (.slice na (len 187) nk) rfl).set 8 1 (.slice ea (len 3) ek) rfl))
 (try dsimp only)
 clear hHeld
 refine hKK.out _ _ (⟨((E27.out.bx 4 rfl).cell 0 rfl), ((E27.out.bx 9 rfl).cell 0 rfl), ((E27.out.bx 0 rfl).cell 0 rfl)⟩) (fun hHeld => ?_)
 clear hKK KK
 try simp only [Act.put, pq0, pq1, pq2]
 have b19 := E27.out.bx 7 rfl
 have c19_0 := b19.cell 0 rfl
 have f19_0 := b19.frozen 0
 clear b19
 refine uRd 5 (fun KK hKK => ?_)
 go_simp
 have E28 : Hid (Env (fun _ => True) w [(w19.heap.size, 24, [.slice da (len 107) dk]), (w13.heap.size, 24, [.slice ha (len 160) hk]), (bg, 24, [.slice ca (len 16) ck]), (ag, 24, [.slice aa (len 10) ak]), (w8.heap.size, 24, [.slice na (len 187) nk]), (w3.heap.size, 24, [.slice ea (len 3) ek]), (w1.heap.size, 24, [.slice ta (len 2) tk]), (w.heap.size + 1 + 1 + 1 + 1, 24, [.slice da (len 107) dk]), (w.heap.size + 1 + 1 + 1, 26, [.slice na (len 187) nk, .slice ea (len 3) ek]), (w.heap.size + 1 + 1, 24, [.slice ea (len 3) ek]), (w.heap.size + 1, 57, [.slice qna 1 qnk, .slice qra 1 qrk, .slice qza 4 qzk]), (w.heap.size, 57, [.slice pna 1 pnk, .slice pra 1 prk, .slice pza 2 pzk])] [.gn (gS (.slice da (len 107) dk) (digs 107)), .gn (gS (.slice ga (len 3) gk) (digs 3)), .gn (gS (.slice ha (len 160) hk) (digs 160)), .gn (gS (.slice ca (len 16) ck) (digs 16)), .gn (gS (.slice va (len 1) vk) (digs 1)), .gn (gS (.slice aa (len 10) ak) (digs 10)), .gn (gS (.slice ua (len 1) uk) (digs 1)), .gn (gS (.slice na (len 187) nk) (digs 187)), .gn (gS (.slice ta (len 2) tk) (digs 2)), .gn (gS (.slice ea (len 3) ek) (digs 3)), .gn (gCt 3 ct17 (.slice qna 1 qnk) (.slice qra 1 qrk) (.slice qza 4 qzk)), .gn (gCt 3 ct11 (.slice pna 1 pnk) (.slice pra 1 prk) (.slice pza 2 pzk))] _) := Zh ((E27.out.set 7 0 (.slice da (len 107) dk) rfl))
 (try dsimp only)
 clear hHeld
 refine hKK.out _ _ (⟨((E28.out.bx 4 rfl).cell 0 rfl), ((E28.out.bx 9 rfl).cell 0 rfl), ((E28.out.bx 0 rfl).cell 0 rfl)⟩) (fun hHeld => ?_)
 clear hKK KK
 try simp only [Act.put, pq0, pq1, pq2]
 refine uTk (i := 6) (some 8) (v := ?_) ?_ ?_
 rotate_left
 ·(intro wS hSw; (try dsimp only at hSw); go_simp; try with_reducible rfl)
 try simp only [Act.put, pq0, pq1, pq2]
 refine uDone (by kernel_rfl) ?_ _
 clear c18_0 c18_1 f18_0 f18_1 c19_0 f19_0 E26 E27
 generalize ((w21.setCell ⟨w.heap.size + 1 + 1 + 1, 0, none⟩ (.slice na (len 187) nk)).setCell ⟨w.heap.size + 1 + 1 + 1, 1, none⟩ (.slice ea (len 3) ek)).setCell ⟨w.heap.size + 1 + 1 + 1 + 1, 0, none⟩ (.slice da (len 107) dk) = w22 at *
 have b20 := E28.out.bx 8 rfl
 have c20_0 := b20.cell 0 rfl
 have c20_1 := b20.cell 1 rfl
 clear b20
 have b21 := E28.out.bx 7 rfl
 have c21_0 := b21.cell 0 rfl
 clear b21
 go_wp2
 have hfin := E28.out
 have q22 := (hfin.bx 8 rfl).cell 0 rfl
 have q23 := (hfin.bx 8 rfl).cell 1 rfl
 have q24 := (hfin.bx 7 rfl).cell 0 rfl
 exact bodyPost_ret (v := .tuple #[.agg #[.slice na (len 187) nk, .slice ea (len 3) ek], .agg #[.slice da (len 107) dk], .int .i64 0]) (by simp [results, Tryz.results32, go_sem, q22, q23, q24]) rfl ⟨⟨na, nk, ea, ek, da, dk, rfl, Zh (gS.sl (hfin.out 7 rfl)), Zh (gS.sl (hfin.out 0 rfl))⟩, hfin.bel⟩
theorem Certify_11 {w : World} (hl : Laid w) : Calls Tryz.prog 31 #[.int .i64 11] w fun e w' => (∃ xna xnk xra xrk xza xzk, e = .returned (.tuple #[.agg #[.slice xna 1 xnk, .slice xra 1 xrk, .slice xza 2 xzk], .int .i64 0]) ∧ Hid (Fct.at w' (fun b => w.heap.size ≤ b) (.gn (gCt 3 ct11 (.slice xna 1 xnk) (.slice xra 1 xrk) (.slice xza 2 xzk))))) ∧ Below w.heap.size w w' := by
 exact Certify_g 3 ct11 hl do11
theorem Certify_17 {w : World} (hl : Laid w) : Calls Tryz.prog 31 #[.int .i64 17] w fun e w' => (∃ xna xnk xra xrk xza xzk, e = .returned (.tuple #[.agg #[.slice xna 1 xnk, .slice xra 1 xrk, .slice xza 4 xzk], .int .i64 0]) ∧ Hid (Fct.at w' (fun b => w.heap.size ≤ b) (.gn (gCt 3 ct17 (.slice xna 1 xnk) (.slice xra 1 xrk) (.slice xza 4 xzk))))) ∧ Below w.heap.size w w' := by
 exact Certify_g 3 ct17 hl do17
theorem awake24_c  {w : World}  (hl0 : Laid w) :
  Calls Tryz.prog 8 #[] w fun e w' => e = .returned (.bool true) ∧ Below w.heap.size w w' := by
 have E0 := Zh (Env.start (fun _ => True) w)
 go_enter Tryz.func8, Tryz.ntmps8
 have hl := Zh hl0
 clear hl0
 go_wp2_with fail
 refine (Certify_11 (hl.out.below E0.out.bel)).mono ?_
 rintro e w1 ⟨⟨pna, pnk, pra, prk, pza, pzk, rfl, ph⟩, hb⟩
 have E1 := Zh (E0.out.got (E0.out.below hb) (.gn (gCt 3 ct11 (.slice pna 1 pnk) (.slice pra 1 prk) (.slice pza 2 pzk))) (Zh (ctGe ph.out)).out)
 clear E0 hb
 go_wp2_with fail
 have E2 := Zh ((E1.out.push 57 [.slice pna 1 pnk, .slice pra 1 prk, .slice pza 2 pzk] (w1.heap.size) (by simp)))
 refine (Certify_17 (hl.out.below E2.out.bel)).mono ?_
 rintro e w2 ⟨⟨qna, qnk, qra, qrk, qza, qzk, rfl, qh⟩, hb⟩
 have E3 := Zh (E2.out.got (E2.out.below hb) (.gn (gCt 3 ct17 (.slice qna 1 qnk) (.slice qra 1 qrk) (.slice qza 4 qzk))) (Zh (ctGe qh.out)).out)
 clear E1 E2 hb
 go_wp2_with fail
 have E4 := Zh ((E3.out.push 57 [.slice qna 1 qnk, .slice qra 1 qrk, .slice qza 4 qzk] (w2.heap.size) (by simp)))
 clear E3
 generalize w2.alloc (.cells #[.slice qna 1 qnk, .slice qra 1 qrk, .slice qza 4 qzk] 57) = w3 at *
 refine' wp_region_phaseW (by kernel_rfl) [0, 1, 2, 3, 4, 5, 8, 9] [6, 7] (by kernel_rfl) #[true, true, true, true, true, true, true, true, true, true, false, false, false] (by kernel_rfl) 3 (by kernel_rfl) [Nn.PEq (.agg #[.slice pna 1 pnk, .slice pra 1 prk, .slice pza 2 pzk]), Nn.PEq (.agg #[.slice qna 1 qnk, .slice qra 1 qrk, .slice qza 4 qzk]), Nn.PNum 3, PMk, PMk, PKy, Nn.PNum 107, Nn.PEq (.int .i64 0), PBx w3.heap.size 26 [.slice none 0 0, .slice none 0 0], PBx w3.heap.size 24 [.slice none 0 0], Fact.none, Fact.none, Fact.none] (List.forall_mem_cons.2 ⟨Nn.PEq.st _, List.forall_mem_cons.2 ⟨Nn.PEq.st _, List.forall_mem_cons.2 ⟨Nn.PNum.st _, List.forall_mem_cons.2 ⟨PMk.st, List.forall_mem_cons.2 ⟨PMk.st, List.forall_mem_cons.2 ⟨PKy.st, List.forall_mem_cons.2 ⟨Nn.PNum.st _, List.forall_mem_cons.2 ⟨Nn.PEq.st _, List.forall_mem_cons.2 ⟨PBx.st _ _ _, List.forall_mem_cons.2 ⟨PBx.st _ _ _, List.forall_mem_cons.2 ⟨Fact.none_st, List.forall_mem_cons.2 ⟨Fact.none_st, List.forall_mem_cons.2 ⟨Fact.none_st, List.forall_mem_nil _⟩⟩⟩⟩⟩⟩⟩⟩⟩⟩⟩⟩⟩) _ ?hFq3 ?stepq3 ?lateq3 ?doneq3
 case hFq3 => intro x; simp only [frameL, Act.put, List.setIfInBounds_toArray, List.set_cons_zero, List.set_cons_succ, Nat.zero_add, Nat.reduceAdd]; exact rfl
 case stepq3 =>
  show ∀ i ∈ [6, 7, 0, 1, 2, 3, 4, 5, 8, 9], _
  refine List.forall_mem_cons.2 ⟨?_, ?_⟩
  ·intro xv bv ev WW hB hdp
   refine Nn.op_of rfl ?_
   obtain ⟨na, nk, ea, ek, da, dk, ed4, hn, hd⟩ := (show (PMk) (xv 4) (bv 4) (ev 4) WW from hdp 4 (by kernel_rfl))
   clear hdp
   intro KK hKK
   go_simp
   exact Nn.act_eq (hKK.out _ _ (Below.refl _ _) ⟨da, dk, rfl, hd⟩) (by first | rfl | simp [upd, ed4])
  refine List.forall_mem_cons.2 ⟨?_, ?_⟩
  ·intro xv bv ev WW hB hdp
   refine Nn.op_of rfl ?_
   obtain ⟨na, nk, ea, ek, da, dk, ed4, hn, hd⟩ := (show (PMk) (xv 4) (bv 4) (ev 4) WW from hdp 4 (by kernel_rfl))
   clear hdp
   intro KK hKK
   go_simp
   exact Nn.act_eq (hKK.out _ _ (Below.refl _ _) rfl) (by first | rfl | simp [upd, ed4])
  refine List.forall_mem_cons.2 ⟨?_, ?_⟩
  ·intro xv bv ev WW hB hdp
   refine Nn.op_of rfl ?_
   clear hdp
   intro KK hKK
   have z0 := ((E4.out.below hB).bx 1 rfl).cell 0 rfl
   have z1 := ((E4.out.below hB).bx 1 rfl).cell 1 rfl
   have z2 := ((E4.out.below hB).bx 1 rfl).cell 2 rfl
   go_simp
   exact Nn.act_eq (hKK.out (.agg #[.slice pna 1 pnk, .slice pra 1 prk, .slice pza 2 pzk]) _ (Below.refl _ _) rfl) (by first | rfl | simp [upd])
  refine List.forall_mem_cons.2 ⟨?_, ?_⟩
  ·intro xv bv ev WW hB hdp
   refine Nn.op_of rfl ?_
   clear hdp
   intro KK hKK
   have z0 := ((E4.out.below hB).bx 0 rfl).cell 0 rfl
   have z1 := ((E4.out.below hB).bx 0 rfl).cell 1 rfl
   have z2 := ((E4.out.below hB).bx 0 rfl).cell 2 rfl
   go_simp
   exact Nn.act_eq (hKK.out (.agg #[.slice qna 1 qnk, .slice qra 1 qrk, .slice qza 4 qzk]) _ (Below.refl _ _) rfl) (by first | rfl | simp [upd])
  refine List.forall_mem_cons.2 ⟨?_, ?_⟩
  ·intro xv bv ev WW hB hdp
   refine Nn.op_of rfl ?_
   clear hdp
   intro KK hKK
   go_simp
   refine (of_c 3 (by decide)).mono ?_
   rintro e WW' ⟨⟨ua, uk, rfl, hu⟩, hb⟩
   (try dsimp only)
   (try simp only [Act.put, pq0, pq1, pq2])
   exact Nn.act_eq (hKK.out _ _ hb ⟨_, _, rfl, hu⟩) (by first | rfl | simp [upd])
  refine List.forall_mem_cons.2 ⟨?_, ?_⟩
  ·intro xv bv ev WW hB hdp
   refine Nn.op_of rfl ?_
   have ed0 : xv 0 = .agg #[.slice pna 1 pnk, .slice pra 1 prk, .slice pza 2 pzk] := hdp 0 (by kernel_rfl)
   have ed1 : xv 1 = .agg #[.slice qna 1 qnk, .slice qra 1 qrk, .slice qza 4 qzk] := hdp 1 (by kernel_rfl)
   obtain ⟨ua, uk, ed2, hu⟩ := (show (Nn.PNum 3) (xv 2) (bv 2) (ev 2) WW from hdp 2 (by kernel_rfl))
   clear hdp
   intro KK hKK
   go_simp
   refine (Make_c hu.out (gCt.any ((E4.out.below hB).fc 1 rfl)) (gCt.any ((E4.out.below hB).fc 0 rfl))).mono ?_
   rintro e WW' ⟨⟨na, nk, ea, ek, da, dk, rfl, hn, hd⟩, hb⟩
   (try dsimp only)
   (try simp only [Act.put, pq0, pq1, pq2])
   exact Nn.act_eq (hKK.out _ _ hb ⟨na, nk, ea, ek, da, dk, rfl, hn, hd⟩) (by first | rfl | simp [upd, ed0, ed1, ed2])
  refine List.forall_mem_cons.2 ⟨?_, ?_⟩
  ·intro xv bv ev WW hB hdp
   refine Nn.op_of rfl ?_
   obtain ⟨na, nk, ea, ek, da, dk, ed3, hn, hd⟩ := (show (PMk) (xv 3) (bv 3) (ev 3) WW from hdp 3 (by kernel_rfl))
   clear hdp
   intro KK hKK
   go_simp
   exact Nn.act_eq (hKK.out _ _ (Below.refl _ _) ⟨na, nk, ea, ek, da, dk, rfl, hn, hd⟩) (by first | rfl | simp [upd, ed3])
  refine List.forall_mem_cons.2 ⟨?_, ?_⟩
  ·intro xv bv ev WW hB hdp
   refine Nn.op_of rfl ?_
   obtain ⟨na, nk, ea, ek, da, dk, ed4, hn, hd⟩ := (show (PMk) (xv 4) (bv 4) (ev 4) WW from hdp 4 (by kernel_rfl))
   clear hdp
   intro KK hKK
   go_simp
   exact Nn.act_eq (hKK.out _ _ (Below.refl _ _) ⟨na, nk, ea, ek, rfl, hn⟩) (by first | rfl | simp [upd, ed4])
  refine List.forall_mem_cons.2 ⟨?_, ?_⟩
  ·intro xv bv ev WW hB hdp
   refine Nn.op_of rfl ?_
   clear hdp
   intro KK hKK
   go_simp
   exact Nn.act_eq (hKK.out (.pointer (some ⟨WW.heap.size, 0, none⟩)) _ (Nn.below_one _ _) (PBx.mk hB rfl 26 [.slice none 0 0, .slice none 0 0])) (by first | rfl | simp [upd])
  refine List.forall_mem_cons.2 ⟨?_, ?_⟩
  ·intro xv bv ev WW hB hdp
   refine Nn.op_of rfl ?_
   clear hdp
   intro KK hKK
   go_simp
   exact Nn.act_eq (hKK.out (.pointer (some ⟨WW.heap.size, 0, none⟩)) _ (Nn.below_one _ _) (PBx.mk hB rfl 24 [.slice none 0 0])) (by first | rfl | simp [upd])
  exact List.forall_mem_nil _
 case lateq3 =>
  intro V hV hne
  rcases (show V = [] ∨ V = [7] ∨ V = [6] ∨ V = [6, 7] by simpa [subs] using hV) with rfl | rfl | rfl | rfl
  ·intro xv bv ev WW hB hR
   obtain ⟨na, nk, ea, ek, da, dk, ed4, hn, hd⟩ := (show (PMk) (xv 4) (bv 4) (ev 4) WW from hR 4 (by kernel_rfl))
   refine ⟨6, .agg #[.slice da (len 107) dk], ⟨by decide, by decide⟩, ⟨da, dk, rfl, hd⟩, fun fl hw => ?_⟩
   refine Nn.takeP (i := 6) (some 22) (v := .agg #[.slice da (len 107) dk]) rfl rfl (by kernel_rfl) (by kernel_rfl) (by kernel_rfl) (fun _ _ _ h => h) (by rfl) ?_ ?_
   ·(intro wS; go_simp; try with_reducible rfl)
   exact hw
  ·intro xv bv ev WW hB hR
   obtain ⟨na, nk, ea, ek, da, dk, ed4, hn, hd⟩ := (show (PMk) (xv 4) (bv 4) (ev 4) WW from hR 4 (by kernel_rfl))
   refine ⟨6, .agg #[.slice da (len 107) dk], ⟨by decide, by decide⟩, ⟨da, dk, rfl, hd⟩, fun fl hw => ?_⟩
   refine Nn.takeP (i := 6) (some 22) (v := .agg #[.slice da (len 107) dk]) rfl rfl (by kernel_rfl) (by kernel_rfl) (by kernel_rfl) (fun _ _ _ h => h) (by rfl) ?_ ?_
   ·(intro wS; go_simp; try with_reducible rfl)
   exact hw
  ·intro xv bv ev WW hB hR
   obtain ⟨na, nk, ea, ek, da, dk, ed4, hn, hd⟩ := (show (PMk) (xv 4) (bv 4) (ev 4) WW from hR 4 (by kernel_rfl))
   refine ⟨7, .int .i64 0, ⟨by decide, by decide⟩, rfl, fun fl hw => ?_⟩
   refine Nn.takeP (i := 7) (some 23) (v := .int .i64 0) rfl rfl (by kernel_rfl) (by kernel_rfl) (by kernel_rfl) (fun _ _ _ h => h) (by rfl) ?_ ?_
   ·(intro wS; go_simp; try with_reducible rfl)
   exact hw
  ·exact absurd rfl hne
 intro xv bv ev w4 hB hR hO
 have ed0 : xv 0 = .agg #[.slice pna 1 pnk, .slice pra 1 prk, .slice pza 2 pzk] := hR 0 (by kernel_rfl)
 have ed1 : xv 1 = .agg #[.slice qna 1 qnk, .slice qra 1 qrk, .slice qza 4 qzk] := hR 1 (by kernel_rfl)
 obtain ⟨ua, uk, ed2, hu⟩ := (show (Nn.PNum 3) (xv 2) (bv 2) (ev 2) w4 from hR 2 (by kernel_rfl))
 obtain ⟨na, nk, ea, ek, ed5, hn⟩ := (show (PKy) (xv 5) (bv 5) (ev 5) w4 from hR 5 (by kernel_rfl))
 obtain ⟨da, dk, ed6, hd⟩ := (show (Nn.PNum 107) (xv 6) (bv 6) (ev 6) w4 from hR 6 (by kernel_rfl))
 have ed7 : xv 7 = .int .i64 0 := hR 7 (by kernel_rfl)
 obtain ⟨kg, ed8, hl8, hr8, hX8⟩ := (show (PBx w3.heap.size 26 [.slice none 0 0, .slice none 0 0]) (xv 8) (bv 8) (ev 8) w4 from hR 8 (by kernel_rfl))
 obtain ⟨dg, ed9, hl9, hr9, hX9⟩ := (show (PBx w3.heap.size 24 [.slice none 0 0]) (xv 9) (bv 9) (ev 9) w4 from hR 9 (by kernel_rfl))
 simp only [ed0, ed1, ed2, ed5, ed6, ed7, ed8, ed9]
 have hne : kg ≠ dg := by have := hO 8 9 (by kernel_rfl) (by kernel_rfl) (by decide); omega
 have E5 := Zh ((((E4.out.gotBox2 hB hX8 hX9 hne).noteS hu.out rfl).noteS hn.out rfl).noteS hd.out rfl)
 clear hB hR hO ed0 ed1 ed2 ed5 ed6 ed7 ed8 ed9 hu hn hd hl8 hr8 hX8 hl9 hr9 hX9 hne E4
 have b1 := E5.out.bx 0 rfl
 have c1_0 := b1.cell 0 rfl
 have c1_1 := b1.cell 1 rfl
 have f1_0 := b1.frozen 0
 have f1_1 := b1.frozen 1
 clear b1
 refine wpAny_next (i := 10) (by kernel_rfl) rfl (fun KK hKK => ?_)
 go_simp
 have E6 : Hid (Env (fun _ => True) w [(kg, 26, [.slice na (len 187) nk, .slice ea (len 3) ek]), (dg, 24, [.slice none 0 0]), (w2.heap.size, 57, [.slice qna 1 qnk, .slice qra 1 qrk, .slice qza 4 qzk]), (w1.heap.size, 57, [.slice pna 1 pnk, .slice pra 1 prk, .slice pza 2 pzk])] [.gn (gS (.slice da (len 107) dk) (digs 107)), .gn (gS (.slice na (len 187) nk) (digs 187)), .gn (gS (.slice ua (len 3) uk) (digs 3)), .gn (gCt 3 ct17 (.slice qna 1 qnk) (.slice qra 1 qrk) (.slice qza 4 qzk)), .gn (gCt 3 ct11 (.slice pna 1 pnk) (.slice pra 1 prk) (.slice pza 2 pzk))] _) := Zh (((E5.out.set 0 0 (.slice na (len 187) nk) rfl).set 0 1 (.slice ea (len 3) ek) rfl))
 refine hKK.out _ _ ?_
 clear hKK KK
 have b2 := E6.out.bx 1 rfl
 have c2_0 := b2.cell 0 rfl
 have f2_0 := b2.frozen 0
 clear b2
 refine wpAny_next (i := 11) (by kernel_rfl) rfl (fun KK hKK => ?_)
 go_simp
 have E7 : Hid (Env (fun _ => True) w [(kg, 26, [.slice na (len 187) nk, .slice ea (len 3) ek]), (dg, 24, [.slice da (len 107) dk]), (w2.heap.size, 57, [.slice qna 1 qnk, .slice qra 1 qrk, .slice qza 4 qzk]), (w1.heap.size, 57, [.slice pna 1 pnk, .slice pra 1 prk, .slice pza 2 pzk])] [.gn (gS (.slice da (len 107) dk) (digs 107)), .gn (gS (.slice na (len 187) nk) (digs 187)), .gn (gS (.slice ua (len 3) uk) (digs 3)), .gn (gCt 3 ct17 (.slice qna 1 qnk) (.slice qra 1 qrk) (.slice qza 4 qzk)), .gn (gCt 3 ct11 (.slice pna 1 pnk) (.slice pra 1 prk) (.slice pza 2 pzk))] _) := Zh ((E6.out.set 1 0 (.slice da (len 107) dk) rfl))
 refine hKK.out _ _ ?_
 clear hKK KK
 refine wpAny_next (i := 12) (by kernel_rfl) rfl (fun KK hKK => ?_)
 go_simp
 refine hKK.out _ _ ?_
 clear hKK KK
 refine wpAny_done (by kernel_rfl) ?_ _
 go_wp2_with fail
 clear c1_0 c1_1 f1_0 f1_1 c2_0 f2_0 E5 E6
 generalize ((w4.setCell ⟨kg, 0, none⟩ (.slice na (len 187) nk)).setCell ⟨kg, 1, none⟩ (.slice ea (len 3) ek)).setCell ⟨dg, 0, none⟩ (.slice da (len 107) dk) = w5 at *
 have E8 := Zh E7.out.drew
 clear E7
 refine wp_regionU (S := fun w' => w'.cell? ⟨kg, 0, none⟩ = some (.slice na (len 187) nk) ∧ w'.cell? ⟨dg, 0, none⟩ = some (.slice da (len 107) dk)) [] (by kernel_rfl) (⟨((E8.out.bx 0 rfl).cell 0 rfl), ((E8.out.bx 1 rfl).cell 0 rfl)⟩) (fun hHeld => ?_)
 generalize w5.drew = w6 at *
 refine uPl [0, 1, 2, 3, 4, 5, 6, 7, 8, 9, 10, 11, 12] ?_
 iterate 13 (refine uTl (v := ?_) ?_ ?_; rotate_left; (focus (intro wS hSw; (try dsimp only at hSw); go_simp; try with_reducible rfl)); try simp only [Act.put, pq0, pq1, pq2])
 refine Pl.z ?_
 refine uRd 13 (fun KK hKK => ?_)
 go_simp
 refine (of_c 187 (by decide)).mono ?_
 rintro e w7 ⟨⟨xa, xk, rfl, xh⟩, hb⟩
 have E9 := Zh ((E8.out.below hb).noteS xh.out rfl)
 clear E8 hb xh
 (try dsimp only)
 clear hHeld
 refine hKK.out _ _ (⟨((E9.out.bx 0 rfl).cell 0 rfl), ((E9.out.bx 1 rfl).cell 0 rfl)⟩) (fun hHeld => ?_)
 clear hKK KK
 try simp only [Act.put, pq0, pq1, pq2]
 refine uRd 14 (fun KK hKK => ?_)
 go_simp
 refine (Nn.rSame_c (t := true) (by decide) (gS.sl (E9.out.fc 2 rfl)) (gS.sl (E9.out.fc 0 rfl))).mono ?_
 rintro e w8 ⟨rfl, hb⟩
 have E10 := Zh (E9.out.below hb)
 clear E9 hb
 (try dsimp only)
 clear hHeld
 refine hKK.out _ _ (⟨((E10.out.bx 0 rfl).cell 0 rfl), ((E10.out.bx 1 rfl).cell 0 rfl)⟩) (fun hHeld => ?_)
 clear hKK KK
 try simp only [Act.put, pq0, pq1, pq2]
 refine uPl [15, 16, 17] ?_
 iterate 3 (refine uTl (v := ?_) ?_ ?_; rotate_left; (focus (intro wS hSw; (try dsimp only at hSw); go_simp; try with_reducible rfl)); try simp only [Act.put, pq0, pq1, pq2])
 refine Pl.z ?_
 refine uRd 18 (fun KK hKK => ?_)
 go_simp
 refine (of_c 107 (by decide)).mono ?_
 rintro e w9 ⟨⟨ya, yk, rfl, yh⟩, hb⟩
 have E11 := Zh ((E10.out.below hb).noteS yh.out rfl)
 clear E10 hb yh
 (try dsimp only)
 clear hHeld
 refine hKK.out _ _ (⟨((E11.out.bx 0 rfl).cell 0 rfl), ((E11.out.bx 1 rfl).cell 0 rfl)⟩) (fun hHeld => ?_)
 clear hKK KK
 try simp only [Act.put, pq0, pq1, pq2]
 refine uRd 19 (fun KK hKK => ?_)
 go_simp
 refine (Nn.rSame_c (t := true) (by decide) (gS.sl (E11.out.fc 2 rfl)) (gS.sl (E11.out.fc 0 rfl))).mono ?_
 rintro e w10 ⟨rfl, hb⟩
 have E12 := Zh (E11.out.below hb)
 clear E11 hb
 (try dsimp only)
 clear hHeld
 refine hKK.out _ _ (⟨((E12.out.bx 0 rfl).cell 0 rfl), ((E12.out.bx 1 rfl).cell 0 rfl)⟩) (fun hHeld => ?_)
 clear hKK KK
 try simp only [Act.put, pq0, pq1, pq2]
 refine uPl [20, 21] ?_
 iterate 2 (refine uTl (v := ?_) ?_ ?_; rotate_left; (focus (intro wS hSw; (try dsimp only at hSw); go_simp; try with_reducible rfl)); try simp only [Act.put, pq0, pq1, pq2])
 refine Pl.z ?_
 refine uDone (by kernel_rfl) ?_ _
 have hfin := Zh E12.out.bel
 go_wp2
 go_ret
 exact ⟨rfl, hfin.out⟩
open Go.RowKit
def big (l : List Nat) : Bool := decide (40 < l.length)
theorem great_c (ls : List (List Nat)) {xb xo xk : Nat} {w : World} (hx : Fct.at w (fun _ => True) (.gn (gNs xb xo ls))) {t : Bool} (ht0 : ls.any big = t) (hm : ls.length ≤ 1000) :
  Calls Tryz.prog 9 #[.slice (some ⟨xb, xo, none⟩) ls.length xk] w fun e w' => e = .returned (.bool t) ∧ Below w.heap.size w w' := by
 have E0 := Zh ((Env.start (fun _ => True) w).arg (.gn (gNs xb xo ls)) hx)
 clear hx
 go_enter Tryz.func9, Tryz.ntmps9
 have ht := Zh ht0
 clear ht0
 go_wp2_with fail
 go_loopg [7] (ls.length) (fun gk s7 wr => ∃ (k : Nat), s7 = .int .i64 (k : Int) ∧ Hid (Env (fun _ => True) w [] [.gn (gNs xb xo ls)] wr) ∧ Hid ((k ≤ ls.length ∧ gk = ls.length - k) ∧ ∀ j (h : j < ls.length), j < k → big ls[j] = false))
 case atStart => exact ⟨0, rfl, Zh E0.out, Zh ⟨⟨Nat.zero_le _, rfl⟩, fun j _ h => absurd h (Nat.not_lt_zero _)⟩⟩
 case round =>
  clear E0
  obtain ⟨k, rfl, EL, HA⟩ := hrel
  obtain ⟨⟨a1, a2⟩, a3⟩ := HA.out
  have HS := Zh a3
  clear a3 HA
  by_cases hy : k = ls.length
  rotate_left
  ·have hk : k < ls.length := by omega
   have t6 : decide ((k : Int) < (ls.length : Int)) = true := decide_eq_true (by omega)
   have t7 : decide (k < ls.length) = true := decide_eq_true hk
   clear hy
   go_upto_region 3 with (fail)
   obtain ⟨ua, uk, E10⟩ := EL.out.elS 0 rfl (k) hk
   have E1 : Hid (Env (fun _ => True) w [] [.ce xb (xo + k) (.slice ua ls[k].length uk), .gn (gS (.slice ua ls[k].length uk) ls[k]), .gn (gNs xb xo ls)] _) := Zh E10
   clear E10 EL
   have u0 := (E1.out.fc 0 rfl).2
   by_cases hv : big ls[k] = true
   ·skip
    have HT : Hid (t = true) := Zh (by rw [← ht.out]; exact List.any_eq_true.2 ⟨_, List.getElem_mem hk, hv⟩)
    have HV := Zh hv
    have d1 : decide (40 < ls[k].length) = true := HV.out
    have d2 : decide ((40 : Int) < (ls[k].length : Int)) = true := by rw [← d1]; exact decide_eq_decide.2 (by omega)
    clear hv
    have E2 := Zh ((E1.out.push 24 [.slice ua ls[k].length uk] (wr.heap.size) (by simp)))
    have hfin := Zh E2.out.bel
    go_wp2
    go_ret
    exact ⟨RetEqB HT.out.symm, hfin.out⟩
   ·skip
    have HV := Zh (Bool.eq_false_iff.2 hv)
    have d1 : decide (40 < ls[k].length) = false := HV.out
    have d2 : decide ((40 : Int) < (ls[k].length : Int)) = false := by rw [← d1]; exact decide_eq_decide.2 (by omega)
    clear hv
    have E2 := Zh ((E1.out.push 24 [.slice ua ls[k].length uk] (wr.heap.size) (by simp)))
    have EZ := Zh (((E2.out.drop).forget).forget)
    go_wp2
    go_roundg (ls.length - (k + 1))
    case rel => exact ⟨k + 1, rfl, EZ, Zh ⟨⟨by omega, rfl⟩, fun j h hj => by by_cases e : j = k; (· subst e; exact HV.out); exact HS.out j h (by omega)⟩⟩
    case measure => exact by omega
  have t6 : decide ((k : Int) < (ls.length : Int)) = false := decide_eq_false (by omega)
  have t7 : decide (k < ls.length) = false := decide_eq_false (by omega)
  have HT : Hid (t = false) := Zh (by rw [← ht.out, List.any_eq_false]; intro l hl; obtain ⟨j, hj, rfl⟩ := List.getElem_of_mem hl; rw [HS.out j hj (by omega)]; simp)
  clear hy
  have hfin := Zh EL.out.bel
  go_wp2
  go_ret
  exact ⟨RetEqB HT.out.symm, hfin.out⟩
theorem same_c (R : Nat) (c : Int) {xa ya : Option Addr} {xk yk : Nat} {w : World} (ha : Sl w (.slice xa (len R) xk) (digs R)) (hb : Sl w (.slice ya (len R) yk) (digs R)) (hl0 : len R ≤ 64) :
  Calls Tryz.prog 12 #[.agg #[.slice xa (len R) xk], .agg #[.slice ya (len R) yk], .int .i64 c, .int .i64 c] w fun e w' => e = .returned (.bool true) ∧ Below w.heap.size w w' := by
 have E0 := Zh (((Env.start (fun _ => True) w).argS ha).argS hb)
 clear ha hb
 go_enter Tryz.func12, Tryz.ntmps12
 have hv : Hid (vld (digs R) = true) := Zh (by rw [Nn.vld_digs, decide_eq_true hl0])
 clear hl0
 have E1 := Zh (((E0.out.push 24 [.slice xa (len R) xk] (w.heap.size) (by simp)).push 24 [.slice ya (len R) yk] (w.heap.size + 1) (by simp)))
 go_wp2_with fail
 refine (rvalidF hv.out (gS.sl (E1.out.fc 1 rfl))).mono ?_
 rintro e w1 ⟨rfl, hb⟩
 have E2 := Zh (E1.out.below hb)
 clear E0 E1 hb
 have b1 := E2.out.bx 1 rfl
 have c1_0 := b1.cell 0 rfl
 clear b1
 have b2 := E2.out.bx 0 rfl
 have c2_0 := b2.cell 0 rfl
 clear b2
 go_wp2_with fail
 refine (Nn.rSame_c (decide_eq_true rfl) (gS.sl (E2.out.fc 1 rfl)) (gS.sl (E2.out.fc 0 rfl))).mono ?_
 rintro e w2 ⟨rfl, hb⟩
 have E3 := Zh (E2.out.below hb)
 clear c1_0 c2_0 E2 hb
 have hfin := Zh E3.out.bel
 go_wp2
 go_ret
 exact ⟨rfl, hfin.out⟩
theorem errN {P : Program} {f : Nat} {args : Array Value} {w : World} {c : Int} (h : Calls P f args w fun e w' => e = .returned (.tuple #[.agg #[.slice none 0 0], .int .i64 c]) ∧ Below w.heap.size w w') : Calls P f args w fun e w' => ResN 0 c e w' ∧ Below w.heap.size w w' :=
 h.mono fun e w' ⟨h1, h2⟩ => ⟨by rw [h1]; exact Nn.ResN.zero c w', h2⟩
theorem len0 : len 0 ≤ 64 := by rw [Nn.NatMath.len_zero]; omega
end Go.Proofs.YtikopkkebdobdaaGreatDoor

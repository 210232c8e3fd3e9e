/- Picked declarations of VsK, VsL, VsM. -/
import Derived.Test.YtikopkkebdobdaaGreatDoorVwU
import Derived.Test.YtikopkkebdobdaaGreatDoorVwH
import Derived.Test.YtikopkkebdobdaaGreatDoorVwK
import Derived.Lib.EndianBits
namespace Go.Proofs.YtikopkkebdobdaaGreatDoor
set_option maxRecDepth 100000
set_option maxHeartbeats 8000000
open Nn.NatMath (len digs)
open Nn (Sl vld ResN ResZ)
set_option linter.unusedVariables false
set_option linter.unusedSimpArgs false
open Go.RowKit
/-- a word of 96 bytes, from the end -/
def wrd (B : List Nat) (i : Nat) : Nat := ((B.getD (92 - 4 * i) 0 * 256 + B.getD (93 - 4 * i) 0) * 256 + B.getD (94 - 4 * i) 0) * 256 + B.getD (95 - 4 * i) 0
def wL (B : List Nat) : List Nat := (List.range 24).map (wrd B)
/-- the number of a message, before it is reduced -/
def hshN (l : List Nat) : Nat := Nn.NatMath.val (wL (expB (tagB l) 3))
theorem wL_len (B : List Nat) : (wL B).length = 24 := by simp [wL]
theorem be4 (a b c d : Nat) (ha : a < 256) (hb : b < 256) (hc : c < 256) (hd : d < 256) : bits BinOp.or .u32 (bits BinOp.or .u32 (bits BinOp.or .u32 ((a : Int) * 16777216 % 4294967296) ((b : Int) * 65536 % 4294967296)) ((c : Int) * 256 % 4294967296)) (d : Int) = ((((a * 256 + b) * 256 + c) * 256 + d : Nat) : Int) := by
 obtain ⟨A, hA⟩ : ∃ x, x = (a : Int) * 16777216 % 4294967296 := ⟨_, rfl⟩
 obtain ⟨B, hB⟩ : ∃ x, x = (b : Int) * 65536 % 4294967296 := ⟨_, rfl⟩
 obtain ⟨C, hC⟩ : ∃ x, x = (c : Int) * 256 % 4294967296 := ⟨_, rfl⟩
 have e1 : bits BinOp.or .u32 A B = A + B := (or_comm32 A B).trans ((u32_or24 (y := B) (x := A) (by omega) (by omega) (by omega) (by omega) (by omega)).trans (Int.add_comm _ _))
 have e2 : bits BinOp.or .u32 (A + B) C = A + B + C := (or_comm32 _ C).trans ((u32_or16 (y := C) (x := A + B) (by omega) (by omega) (by omega) (by omega) (by omega)).trans (Int.add_comm _ _))
 have e3 : bits BinOp.or .u32 (A + B + C) (d : Int) = A + B + C + d := (or_comm32 _ _).trans ((u32_or8 (y := (d : Int)) (x := A + B + C) (by omega) (by omega) (by omega) (by omega) (by omega)).trans (Int.add_comm _ _))
 rw [← hA, ← hB, ← hC, e1, e2, e3]
 omega
theorem B8.getD {l : List Nat} (h : B8 l) (i : Nat) : l.getD i 0 < 256 := by
 rw [List.getD_eq_getElem?_getD]
 by_cases hi : i < l.length
 ·rw [List.getElem?_eq_getElem hi]; exact h _ (List.getElem_mem hi)
 ·rw [List.getElem?_eq_none (by omega)]; simp
theorem wrd_lt {B : List Nat} (h : B8 B) (i : Nat) : wrd B i < 4294967296 := by
 have h1 := h.getD (92 - 4 * i); have h2 := h.getD (93 - 4 * i); have h3 := h.getD (94 - 4 * i); have h4 := h.getD (95 - 4 * i)
 unfold wrd; omega
theorem mk24 (w : World) : (Instr.makeSlice 22 (.int .i64 24) (.int .i64 24)).run Tryz.prog w = .ok (.slice (some ⟨w.heap.size, 0, none⟩) 24 24) (w.alloc (.cells #[.int .u32 0, .int .u32 0, .int .u32 0, .int .u32 0, .int .u32 0, .int .u32 0, .int .u32 0, .int .u32 0, .int .u32 0, .int .u32 0, .int .u32 0, .int .u32 0, .int .u32 0, .int .u32 0, .int .u32 0, .int .u32 0, .int .u32 0, .int .u32 0, .int .u32 0, .int .u32 0, .int .u32 0, .int .u32 0, .int .u32 0, .int .u32 0] 74)) := by first | kernel_rfl | rfl
/-- the first i of 24 words -/
def wc (B : List Nat) (i : Nat) : List Value := ((List.range i).map fun j => .int .u32 ((wrd B j : Nat) : Int)) ++ List.replicate (24 - i) (.int .u32 0)
theorem wc_get (B : List Nat) (i : Nat) (h : i < 24) : (wc B i)[i]? = some (.int .u32 0) := by
 rw [wc, List.getElem?_append_right (by simp)]; simp [List.getElem?_replicate]; omega
theorem wc_set (B : List Nat) (i : Nat) (h : i < 24) : (wc B i).set i (.int .u32 ((wrd B i : Nat) : Int)) = wc B (i + 1) := by
 have e : 24 - i = (24 - (i + 1)) + 1 := by omega
 rw [wc, wc, List.set_append_right _ _ (by simp), e, List.replicate_succ]
 simp [List.range_succ]
theorem wc_all (B : List Nat) (j : Nat) (h : j < 24) : (wc B 24)[j]? = some (.int .u32 ((wrd B j : Nat) : Int)) := by simp [wc, h]
theorem wL_getD (B : List Nat) (j : Nat) (h : j < 24) : (wL B).getD j 0 = wrd B j := by simp [wL, List.getD_eq_getElem?_getD, h]
theorem wL_sl {W : World} {b g n : Nat} {B : List Nat} {T : TypeId} (hB : Box b g T (wc B 24) W) (h8 : B8 B) (hn : n ≤ 24) : Sl W (.slice (some ⟨g, 0, none⟩) n 24) ((wL B).take n) := by
 have hl : ((wL B).take n).length = n := by rw [List.length_take, wL_len]; omega
 refine ⟨some ⟨g, 0, none⟩, 24, by rw [hl], by omega, by omega, fun u hu => ?_, fun _ => ⟨g, 0, rfl, hB.lt, fun i hi => ?_⟩, fun a e => by cases e; rfl⟩
 ·obtain ⟨j, _, rfl⟩ := List.mem_map.1 (List.mem_of_mem_take hu)
  exact wrd_lt h8 j
 ·rw [hl] at hi
  rw [Nat.zero_add, hB.cell i (wc_all B i (by omega)), List.getD_eq_getElem?_getD, List.getElem?_take, if_pos hi, ← List.getD_eq_getElem?_getD, wL_getD B i (by omega)]
theorem wL_num {W : World} {b g n : Nat} {B : List Nat} {T : TypeId} (hB : Box b g T (wc B 24) W) (h8 : B8 B) (hn : n ≤ 24) (hz : n = 0 ∨ wrd B (n - 1) ≠ 0) (hv : Nn.NatMath.val ((wL B).take n) = Nn.NatMath.val (wL B)) : n = len (Nn.NatMath.val (wL B)) ∧ n ≤ 24 ∧ Sl W (.slice (some ⟨g, 0, none⟩) n 24) (digs (Nn.NatMath.val (wL B))) := by
 have hs := wL_sl hB h8 hn
 have hl : ((wL B).take n).length = n := by rw [List.length_take, wL_len]; omega
 have hvl : vld ((wL B).take n) = true := by
  refine decide_eq_true ⟨by omega, ?_⟩
  rcases hz with rfl | hz
  ·exact .inl rfl
  ·by_cases h0 : n = 0
   ·subst h0; exact .inl rfl
   ·right
    rw [hl, List.getD_eq_getElem?_getD, List.getElem?_take, if_pos (by omega), ← List.getD_eq_getElem?_getD, wL_getD B _ (by omega)]; exact hz
 obtain ⟨M, hM, _, hN⟩ := Nn.nt_of hs hvl
 have hMv : M = Nn.NatMath.val (wL B) := by rw [← hv, hM, Nn.NatMath.val_digs]
 rw [hM, hMv] at hs
 refine ⟨?_, hn, hs⟩
 have : n = (digs M).length := by rw [← hM, hl]
 rw [this, hMv]; rfl
theorem hash_ok (N E r : Nat) (l : List Nat) {na ea ma : Option Addr} {nk ek mk : Nat} {w : World} (hN : Sl w (.slice na (len N) nk) (digs N)) (hE : Sl w (.slice ea (len E) ek) (digs E)) (hM : Fct.at w (fun _ => True) (.bs (.slice ma l.length mk) l)) (HK0 : Key N E) (ht0 : TabD w) (hm0 : l.length ≤ 16384) (hr0 : hshN l % N = r) :
  Calls Tryz.prog 13 #[.agg #[.slice na (len N) nk, .slice ea (len E) ek], .slice ma l.length mk] w fun e w' => ResN r 0 e w' ∧ Below w.heap.size w w' := by
 have E0 := Zh ((((Env.start (fun _ => True) w).arg (.bs (.slice ma l.length mk) l) hM).argS hN).argS hE)
 clear hN hE hM
 go_enter Tryz.func13, Tryz.ntmps13
 have HK := Zh HK0
 have ht := Zh ht0
 have hm := Zh hm0
 have hr := Zh hr0
 clear HK0 ht0 hm0 hr0
 have q1 : decide ((16384 : Int) < (l.length : Int)) = false := decide_eq_false (by have := hm.out; omega)
 have q2 : decide (16384 < l.length) = false := decide_eq_false (by have := hm.out; omega)
 have E1 := Zh (((E0.out.push 26 [.slice na (len N) nk, .slice ea (len E) ek] (w.heap.size) (by simp)).push 24 [.slice none 0 0] (w.heap.size + 1) (by simp)))
 go_wp2_with fail
 refine (vKey_c HK.out.k (gS.sl (E1.out.fc 1 rfl)) (gS.sl (E1.out.fc 0 rfl))).mono ?_
 rintro e w1 ⟨rfl, hb⟩
 have E2 := Zh (E1.out.below hb)
 clear E0 E1 hb
 go_wp2_with fail
 refine (tagged_c l (Bs.any (E2.out.fc 2 rfl)) (ht.out.below E2.out.bel) (by have := hm.out; omega)).mono ?_
 rintro e w2 ⟨rfl, hb⟩
 obtain ⟨T, hT⟩ : ∃ T, tagB l = T := ⟨_, rfl⟩
 have HT : Hid (tagB l = T ∧ T.length = 32 ∧ B8 T) := Zh ⟨hT, by rw [← hT]; exact sumB_len _, by rw [← hT]; exact sumB_8 _⟩
 rw [hT]
 have E3 := Zh ((E2.out.below hb).push 69 Z32 w2.heap.size rfl)
 have HL : Hid ((bcl T).length = 32) := Zh (by rw [bcl_len, HT.out.2.1])
 have HO : Hid (∀ v ∈ bcl T, v.oneCell' = true) := Zh (bcl_one _)
 have b2 := Zh (Box.there (E3.out.bx 0 rfl) (n := 32) (Nat.le_refl _))
 clear hT hb E2
 go_upto_region 6 with (with_reducible refine wpl_store_b bW32 w2.heap.size 0 (bcl T) ?_ ?_ HL.out b2.out HO.out ?_; (· exact ⟨_, _, rfl, rfl, rfl⟩); (· kernel_rfl))
 have E4 := Zh (E3.out.whole 0 (bcl T) rfl HL.out)
 clear E3 b2 HO
 generalize World.setCells _ _ _ _ = wq at *
 have r1 := Zh ((E4.out.bx 0 rfl).range (o := 0) (c := bcl T) (fun j hj => by rw [Nat.zero_add]))
 go_wp2_with (with_reducible refine wpl_load_b bW32 w2.heap.size 0 ?_ ?_ (bcl T) HL.out r1.out ?_; (· exact ⟨_, rfl, rfl⟩); (· kernel_rfl))
 refine (expand_c T HT.out.2.1 HT.out.2.2 (ht.out.below E4.out.bel)).mono ?_
 rintro e w3 ⟨⟨g, rfl, hX⟩, hb⟩
 obtain ⟨X, hXX⟩ : ∃ X, expB T 3 = X := ⟨_, rfl⟩
 rw [hXX] at hX
 have HX : Hid (wL X = wL (expB (tagB l) 3) ∧ X.length = 96 ∧ B8 X) := Zh ⟨by rw [← hXX, HT.out.1], by rw [← hXX, expB_len], by rw [← hXX]; exact expB_8 _ _⟩
 have E5 := Zh (E4.out.drop.got (E4.out.below hb).drop (.bs (.slice (some ⟨g, 0, none⟩) 96 96) X) (Bs.ge hX.out))
 clear E4 r1 HL HT hXX hX hb
 have hmk := mk24 w3
 have E6 := Zh (E5.out.push 74 (wc X 0) w3.heap.size rfl)
 clear E5
 go_wp2_with fail
 clear hmk
 go_loopg [43] (24) (fun gk z43 wr => ∃ (i : Nat), z43 = .int .i64 (i : Int) ∧ Hid (Env (fun _ => True) w [(w3.heap.size, 74, wc X i), (w.heap.size + 1, 24, [.slice none 0 0]), (w.heap.size, 26, [.slice na (len N) nk, .slice ea (len E) ek])] [.bs (.slice (some ⟨g, 0, none⟩) 96 96) X, .gn (gS (.slice ea (len E) ek) (digs E)), .gn (gS (.slice na (len N) nk) (digs N)), .bs (.slice ma l.length mk) l] wr) ∧ Hid (i ≤ 24 ∧ gk = 24 - i))
 case atStart => exact ⟨0, rfl, E6, Zh ⟨Nat.zero_le _, rfl⟩⟩
 case round =>
  clear E6
  obtain ⟨i, rfl, EL, HA⟩ := hrel
  by_cases hy : i = 24
  rotate_left
  ·have hi : i < 24 := by have := HA.out; omega
   have t1 : decide ((i : Int) < 24) = true := decide_eq_true (by omega)
   have t1' : decide (i < 24) = true := decide_eq_true hi
   obtain ⟨at_, ha⟩ : ∃ a, a = 96 - 4 * i := ⟨_, rfl⟩
   have u0 : wrap64 (4 * (i : Int)) = 4 * (i : Int) := by unfold wrap64; omega
   have u1 : wrap64 (96 - 4 * (i : Int)) = (at_ : Int) := by unfold wrap64; omega
   have HI := Zh (And.intro hi ha)
   clear hi ha hy
   go_wp2_with fail
   obtain ⟨i4, h4⟩ : ∃ a, a = 92 - 4 * i := ⟨_, rfl⟩
   obtain ⟨i3, h3⟩ : ∃ a, a = 93 - 4 * i := ⟨_, rfl⟩
   obtain ⟨i2, h2⟩ : ∃ a, a = 94 - 4 * i := ⟨_, rfl⟩
   obtain ⟨i1, h1⟩ : ∃ a, a = 95 - 4 * i := ⟨_, rfl⟩
   have H4 := Zh (And.intro (And.intro h4 h3) (And.intro h2 h1))
   have y4 : IntKind.i64.wrap ((at_ : Int) - 4) = (i4 : Int) := by have := HI.out; rw [IntKind.wrap_i64]; omega
   have y3 : IntKind.i64.wrap ((at_ : Int) - 3) = (i3 : Int) := by have := HI.out; rw [IntKind.wrap_i64]; omega
   have y2 : IntKind.i64.wrap ((at_ : Int) - 2) = (i2 : Int) := by have := HI.out; rw [IntKind.wrap_i64]; omega
   have y1 : IntKind.i64.wrap ((at_ : Int) - 1) = (i1 : Int) := by have := HI.out; rw [IntKind.wrap_i64]; omega
   have d4 : decide (i4 < 96) = true := decide_eq_true (by omega)
   have d3 : decide (i3 < 96) = true := decide_eq_true (by omega)
   have d2 : decide (i2 < 96) = true := decide_eq_true (by omega)
   have d1 : decide (i1 < 96) = true := decide_eq_true (by omega)
   have k4 : (i4 : Int) < 96 := by omega
   have k3 : (i3 : Int) < 96 := by omega
   have k2 : (i2 : Int) < 96 := by omega
   have k1 : (i1 : Int) < 96 := by omega
   have k0 : (i : Int) < 24 := by have := HI.out; omega
   have ED := Zh EL.out.drew
   have c4 := gBy.get (Bs.by (ED.out.fc 0 rfl)) i4 (by rw [HX.out.2.1]; omega)
   have c3 := gBy.get (Bs.by (ED.out.fc 0 rfl)) i3 (by rw [HX.out.2.1]; omega)
   have c2 := gBy.get (Bs.by (ED.out.fc 0 rfl)) i2 (by rw [HX.out.2.1]; omega)
   have c1 := gBy.get (Bs.by (ED.out.fc 0 rfl)) i1 (by rw [HX.out.2.1]; omega)
   rw [Nat.zero_add] at c1 c2 c3 c4
   clear h4 h3 h2 h1 EL
   obtain ⟨x4, e4⟩ : ∃ a, X.getD i4 0 = a := ⟨_, rfl⟩
   obtain ⟨x3, e3⟩ : ∃ a, X.getD i3 0 = a := ⟨_, rfl⟩
   obtain ⟨x2, e2⟩ : ∃ a, X.getD i2 0 = a := ⟨_, rfl⟩
   obtain ⟨x1, e1⟩ : ∃ a, X.getD i1 0 = a := ⟨_, rfl⟩
   have l4 : x4 < 256 := by rw [← e4]; exact HX.out.2.2.getD _
   have l3 : x3 < 256 := by rw [← e3]; exact HX.out.2.2.getD _
   have l2 : x2 < 256 := by rw [← e2]; exact HX.out.2.2.getD _
   have l1 : x1 < 256 := by rw [← e1]; exact HX.out.2.2.getD _
   have v4 : IntKind.u32.wrap (x4 : Int) = (x4 : Int) := by rw [IntKind.wrap_u32]; omega
   have v3 : IntKind.u32.wrap (x3 : Int) = (x3 : Int) := by rw [IntKind.wrap_u32]; omega
   have v2 : IntKind.u32.wrap (x2 : Int) = (x2 : Int) := by rw [IntKind.wrap_u32]; omega
   have v1 : IntKind.u32.wrap (x1 : Int) = (x1 : Int) := by rw [IntKind.wrap_u32]; omega
   rw [e4] at c4; rw [e3] at c3; rw [e2] at c2; rw [e1] at c1
   have HV : Hid (bits BinOp.or .u32 (bits BinOp.or .u32 (bits BinOp.or .u32 ((x4 : Int) * 16777216 % 4294967296) ((x3 : Int) * 65536 % 4294967296)) ((x2 : Int) * 256 % 4294967296)) (x1 : Int) = ((wrd X i : Nat) : Int)) := Zh (by rw [be4 _ _ _ _ l4 l3 l2 l1, wrd, ← H4.out.1.1, ← H4.out.1.2, ← H4.out.2.1, ← H4.out.2.2, e4, e3, e2, e1])
   clear l4 l3 l2 l1 e4 e3 e2 e1
   refine wp_regionU (S := fun w' => ((w'.cell? ⟨g, i4, none⟩ = some (.int .u8 (x4 : Int)) ∧ w'.cell? ⟨g, i3, none⟩ = some (.int .u8 (x3 : Int))) ∧ w'.cell? ⟨g, i2, none⟩ = some (.int .u8 (x2 : Int))) ∧ w'.cell? ⟨g, i1, none⟩ = some (.int .u8 (x1 : Int))) [33] (by kernel_rfl) ⟨⟨⟨c4, c3⟩, c2⟩, c1⟩ (fun hHeld => ?_)
   clear c4 c3 c2 c1
   generalize wr.drew = we at *
   refine uPl [0, 1, 2, 3, 4, 5, 6, 7, 8, 9, 10, 11, 12, 13, 14, 15, 16, 17, 18, 19, 20, 21, 22, 23, 24, 25, 26, 27, 28, 29, 30, 31, 32] ?_
   iterate 33 (refine uTl (v := ?_) ?_ ?_; rotate_left; (focus (intro wS hSw; (try dsimp only at hSw); go_simp; try with_reducible rfl)); try simp only [Act.put, pq0, pq1, pq2])
   refine Pl.z ?_
   refine uReady (rs := [33]) (by kernel_rfl) (by simp) ?_
   refine ReadyU.consU (by kernel_rfl) rfl (fun KK hKK => ?_) ReadyU.nil
   have f1 := (ED.out.bx 0 rfl).cell i (wc_get X i HI.out.1)
   have f2 := (ED.out.bx 0 rfl).frozen i
   have EN : Hid (Env (fun _ => True) w [(w3.heap.size, 74, wc X (i + 1)), (w.heap.size + 1, 24, [.slice none 0 0]), (w.heap.size, 26, [.slice na (len N) nk, .slice ea (len E) ek])] [.bs (.slice (some ⟨g, 0, none⟩) 96 96) X, .gn (gS (.slice ea (len E) ek) (digs E)), .gn (gS (.slice na (len N) nk) (digs N)), .bs (.slice ma l.length mk) l] _) := Zh ((ED.out.set 0 i (.int .u32 (bits BinOp.or .u32 (bits BinOp.or .u32 (bits BinOp.or .u32 ((x4 : Int) * 16777216 % 4294967296) ((x3 : Int) * 65536 % 4294967296)) ((x2 : Int) * 256 % 4294967296)) (x1 : Int))) rfl).cast (by rw [HV.out, ← wc_set X i HI.out.1]; rfl))
   go_simp
   (try dsimp only)
   (try clear hHeld)
   refine hKK.out _ _ ?_
   clear hKK KK ED f1 f2
   try simp only [Act.put, pq0, pq1, pq2]
   refine uDone (by kernel_rfl) ?_ _
   clear y4 y3 y2 y1 d4 d3 d2 d1 k4 k3 k2 k1 k0 v4 v3 v2 v1 u0 u1 t1 t1'
   have u9 : wrap64 ((i : Int) + 1) = ((i + 1 : Nat) : Int) := by have := HI.out; unfold wrap64; omega
   go_wp2
   go_roundg (24 - (i + 1))
   case rel => exact ⟨i + 1, by first | rfl | rw [u9], EN, Zh ⟨by have := HI.out; omega, rfl⟩⟩
   case measure => exact by have := HI.out; have := HA.out; omega
  subst hy
  have t1 : decide ((24 : Int) < 24) = false := decide_eq_false (by omega)
  clear HA
  go_wp2_with fail
  rename World => wz
  go_loopg [9] (24) (fun gk z9 wr => ∃ (n : Nat), z9 = .slice (some ⟨w3.heap.size, 0, none⟩) n 24 ∧ Hid (Env (fun _ => True) w [(w3.heap.size, 74, wc X 24), (w.heap.size + 1, 24, [.slice none 0 0]), (w.heap.size, 26, [.slice na (len N) nk, .slice ea (len E) ek])] [.bs (.slice (some ⟨g, 0, none⟩) 96 96) X, .gn (gS (.slice ea (len E) ek) (digs E)), .gn (gS (.slice na (len N) nk) (digs N)), .bs (.slice ma l.length mk) l] wr) ∧ Hid ((n ≤ 24 ∧ Nn.NatMath.val ((wL X).take n) = Nn.NatMath.val (wL X)) ∧ gk = n))
  case atStart => exact ⟨24, rfl, EL, Zh ⟨⟨Nat.le_refl _, by rw [List.take_of_length_le (by rw [wL_len]; omega)]⟩, rfl⟩⟩
  case round =>
   clear EL
   obtain ⟨n, rfl, EL, HA⟩ := hrel
   by_cases hy : n = 0
   rotate_left
   ·obtain ⟨m, hm1⟩ : ∃ m, n = m + 1 := ⟨n - 1, by omega⟩
    have hm24 : m < 24 := by have := HA.out; omega
    have t2 : decide ((0 : Int) < (n : Int)) = true := decide_eq_true (by omega)
    have t3 : decide (0 < n) = true := decide_eq_true (by omega)
    have u1 : wrap64 ((n : Int) - 1) = (m : Int) := by unfold wrap64; omega
    have y1 : IntKind.i64.wrap ((n : Int) - 1) = (m : Int) := by rw [IntKind.wrap_i64]; omega
    have t4 : decide (m < n) = true := decide_eq_true (by omega)
    have t5 : (m : Int) < (n : Int) := by omega
    have t6 : m ≤ 24 := by omega
    have t7 : (m : Int) ≤ 24 := by omega
    have c1 := (EL.out.bx 0 rfl).cell m (wc_all X m hm24)
    obtain ⟨x, hx⟩ : ∃ x, wrd X m = x := ⟨_, rfl⟩
    rw [hx] at c1
    have HM := Zh (And.intro (And.intro hm1 hm24) (And.intro hx hy))
    clear hm1 hm24 hx hy
    by_cases hz : x = 0
    ·have d6 : ((x : Int) == 0) = true := by simp; omega
     have d7 : (x == 0) = true := by simp; omega
     have HZ := Zh hz
     clear hz
     go_wp2
     go_roundg m
     case rel => exact ⟨m, rfl, EL, Zh ⟨⟨by have := HM.out.1; omega, by have h := HA.out.1.2; rw [HM.out.1.1] at h; rw [← h]; exact Nn.NatMath.val_take_zero (by rw [wL_len]; exact HM.out.1.2) (by rw [wL_getD _ _ HM.out.1.2, HM.out.2.1, HZ.out])⟩, rfl⟩⟩
     case measure => exact by have := HA.out; have := HM.out.1.1; omega
    ·have d6 : ((x : Int) == 0) = false := by simp; omega
     have d7 : (x == 0) = false := by simp; omega
     have HD := Zh (wL_num (EL.out.bx 0 rfl) HX.out.2.2 HA.out.1.1 (.inr (by rw [HM.out.1.1, Nat.add_sub_cancel, HM.out.2.1]; exact hz)) HA.out.1.2)
     clear hz
     go_upto_region 20 with (fail)
     clear t2 t3 u1 y1 t4 t5 t6 t7 c1 d6 d7 HM HA
     obtain ⟨V, hV⟩ : ∃ V, Nn.NatMath.val (wL X) = V := ⟨_, rfl⟩
     rw [hV] at HD
     obtain ⟨rfl, h24, hs⟩ := HD.out
     have HV : Hid (V % N = r ∧ len V ≤ 64) := Zh ⟨by rw [← hV, HX.out.1]; exact hr.out, by omega⟩
     have E51 := Zh (EL.out.drop.noteS hs rfl)
     clear HD hs hV h24 EL
     have b51 := E51.out.bx 1 rfl
     have c51_0 := b51.cell 0 rfl
     clear b51
     go_wp2_with fail
     refine (Nn.divF rfl HV.out.1 (gS.sl (E51.out.fc 0 rfl)) (gS.sl (E51.out.fc 3 rfl)) HV.out.2 (Nat.le_trans HK.out.lN (by omega)) (by have := HK.out.n15; omega)).mono ?_
     rintro e w51 ⟨⟨qa, qk, za, zk, rfl, qh, zh⟩, hb⟩
     have E52 := Zh (((E51.out.below hb).noteS qh.out rfl).noteS zh.out rfl)
     clear c51_0 E51 hb qh zh
     have E53 := Zh (((E52.out.push 24 [.slice qa (len (V / N)) qk] (w51.heap.size) (by simp)).push 24 [.slice za (len r) zk] (w51.heap.size + 1) (by simp)))
     have b52 := E53.out.bx 2 rfl
     have c52_0 := b52.cell 0 rfl
     have f52_0 := b52.frozen 0
     clear b52
     go_wp2
     have E54 : Hid (Env (fun _ => True) w [(w51.heap.size + 1, 24, [.slice za (len r) zk]), (w51.heap.size, 24, [.slice qa (len (V / N)) qk]), (w.heap.size + 1, 24, [.slice za (len r) zk]), (w.heap.size, 26, [.slice na (len N) nk, .slice ea (len E) ek])] [.gn (gS (.slice za (len r) zk) (digs r)), .gn (gS (.slice qa (len (V / N)) qk) (digs (V / N))), .gn (gS (.slice (some ⟨w3.heap.size, 0, none⟩) (len V) 24) (digs V)), .bs (.slice (some ⟨g, 0, none⟩) 96 96) X, .gn (gS (.slice ea (len E) ek) (digs E)), .gn (gS (.slice na (len N) nk) (digs N)), .bs (.slice ma l.length mk) l] _) := Zh ((E53.out.set 2 0 (.slice za (len r) zk) rfl))
     have hfin := E54.out
     have q53 := (hfin.bx 2 rfl).cell 0 rfl
     exact bodyPost_ret (v := .tuple #[.agg #[.slice za (len r) zk], .int .i64 0]) (by simp [results, Tryz.results13, go_sem, q53]) rfl ⟨⟨za, zk, rfl, Zh (gS.sl (hfin.out 0 rfl))⟩, hfin.bel⟩
   have HD := Zh (wL_num (EL.out.bx 0 rfl) HX.out.2.2 HA.out.1.1 (.inl hy) HA.out.1.2)
   have t2 : decide ((0 : Int) < (n : Int)) = false := decide_eq_false (by omega)
   have t3 : decide (0 < n) = false := decide_eq_false (by omega)
   have HY := Zh hy
   clear HA hy
   go_upto_region 20 with (fail)
   clear t2 t3 HY
   obtain ⟨V, hV⟩ : ∃ V, Nn.NatMath.val (wL X) = V := ⟨_, rfl⟩
   rw [hV] at HD
   obtain ⟨rfl, h24, hs⟩ := HD.out
   have HV : Hid (V % N = r ∧ len V ≤ 64) := Zh ⟨by rw [← hV, HX.out.1]; exact hr.out, by omega⟩
   have E51 := Zh (EL.out.drop.noteS hs rfl)
   clear HD hs hV h24 EL
   have b51 := E51.out.bx 1 rfl
   have c51_0 := b51.cell 0 rfl
   clear b51
   go_wp2_with fail
   refine (Nn.divF rfl HV.out.1 (gS.sl (E51.out.fc 0 rfl)) (gS.sl (E51.out.fc 3 rfl)) HV.out.2 (Nat.le_trans HK.out.lN (by omega)) (by have := HK.out.n15; omega)).mono ?_
   rintro e w51 ⟨⟨qa, qk, za, zk, rfl, qh, zh⟩, hb⟩
   have E52 := Zh (((E51.out.below hb).noteS qh.out rfl).noteS zh.out rfl)
   clear c51_0 E51 hb qh zh
   have E53 := Zh (((E52.out.push 24 [.slice qa (len (V / N)) qk] (w51.heap.size) (by simp)).push 24 [.slice za (len r) zk] (w51.heap.size + 1) (by simp)))
   have b52 := E53.out.bx 2 rfl
   have c52_0 := b52.cell 0 rfl
   have f52_0 := b52.frozen 0
   clear b52
   go_wp2
   have E54 : Hid (Env (fun _ => True) w [(w51.heap.size + 1, 24, [.slice za (len r) zk]), (w51.heap.size, 24, [.slice qa (len (V / N)) qk]), (w.heap.size + 1, 24, [.slice za (len r) zk]), (w.heap.size, 26, [.slice na (len N) nk, .slice ea (len E) ek])] [.gn (gS (.slice za (len r) zk) (digs r)), .gn (gS (.slice qa (len (V / N)) qk) (digs (V / N))), .gn (gS (.slice (some ⟨w3.heap.size, 0, none⟩) (len V) 24) (digs V)), .bs (.slice (some ⟨g, 0, none⟩) 96 96) X, .gn (gS (.slice ea (len E) ek) (digs E)), .gn (gS (.slice na (len N) nk) (digs N)), .bs (.slice ma l.length mk) l] _) := Zh ((E53.out.set 2 0 (.slice za (len r) zk) rfl))
   have hfin := E54.out
   have q53 := (hfin.bx 2 rfl).cell 0 rfl
   exact bodyPost_ret (v := .tuple #[.agg #[.slice za (len r) zk], .int .i64 0]) (by simp [results, Tryz.results13, go_sem, q53]) rfl ⟨⟨za, zk, rfl, Zh (gS.sl (hfin.out 0 rfl))⟩, hfin.bel⟩
open Go.RowKit
/-- the code of a factor -/
def facC (R N : Nat) : Int := if R = 0 ∨ ¬ R < N then 2 else if Nn.NatMath.invG R N = 1 then 0 else 10
theorem factor_z (N E R : Nat) {na ea ra : Option Addr} {nk ek rk : Nat} {w : World} (hN : Sl w (.slice na (len N) nk) (digs N)) (hE : Sl w (.slice ea (len E) ek) (digs E)) (hR : Sl w (.slice ra (len R) rk) (digs R)) (hz : R = 0) :
  Calls Tryz.prog 46 #[.agg #[.slice na (len N) nk, .slice ea (len E) ek], .agg #[.slice ra (len R) rk]] w fun e w' => ResZ 2 e ∧ Below w.heap.size w w' := by
 have E0 := Zh ((((Env.start (fun _ => True) w).argS hN).argS hE).argS hR)
 clear hN hE hR
 go_enter Tryz.func46, Tryz.ntmps46
 have lz : len R = 0 := by rw [hz]; exact Nn.NatMath.len_zero
 have z1 : (((len R : Nat) : Int) == 0) = true := by rw [lz]; rfl
 have z2 : (len R == 0) = true := by rw [lz]; rfl
 clear hz lz
 go_wp2
 have E1 := Zh ((((E0.out.push 26 [.slice na (len N) nk, .slice ea (len E) ek] (w.heap.size) (by simp)).push 24 [.slice ra (len R) rk] (w.heap.size + 1) (by simp)).push 24 [.slice none 0 0] (w.heap.size + 1 + 1) (by simp)))
 have hfin := E1.out
 have q1 := (hfin.bx 0 rfl).cell 0 rfl
 exact bodyPost_ret (v := .tuple #[.agg #[.slice none 0 0], .int .i64 2]) (by simp [results, Tryz.results46, go_sem, q1]) rfl ⟨⟨none, 0, rfl⟩, hfin.bel⟩
theorem factor_r (N E R : Nat) {na ea ra : Option Addr} {nk ek rk : Nat} {w : World} (hN : Sl w (.slice na (len N) nk) (digs N)) (hE : Sl w (.slice ea (len E) ek) (digs E)) (hR : Sl w (.slice ra (len R) rk) (digs R)) (HK0 : Key N E) (hz : R ≠ 0) (lR0 : len R ≤ 64) (h10 : decide (R < N) = false) :
  Calls Tryz.prog 46 #[.agg #[.slice na (len N) nk, .slice ea (len E) ek], .agg #[.slice ra (len R) rk]] w fun e w' => ResZ 2 e ∧ Below w.heap.size w w' := by
 have E0 := Zh ((((Env.start (fun _ => True) w).argS hN).argS hE).argS hR)
 clear hN hE hR
 go_enter Tryz.func46, Tryz.ntmps46
 have HK := Zh HK0
 have lR := Zh lR0
 have h1 := Zh h10
 clear HK0 lR0 h10
 obtain ⟨z1, z2⟩ := len_zero_beq hz
 clear hz
 have lN := Zh (Nat.le_trans HK.out.lN (by omega : 32 ≤ 64))
 have E1 := Zh ((((E0.out.push 26 [.slice na (len N) nk, .slice ea (len E) ek] (w.heap.size) (by simp)).push 24 [.slice ra (len R) rk] (w.heap.size + 1) (by simp)).push 24 [.slice none 0 0] (w.heap.size + 1 + 1) (by simp)))
 go_wp2_with fail
 refine (vbelow_c h1.out lR.out lN.out (gS.sl (E1.out.fc 0 rfl)) (gS.sl (E1.out.fc 2 rfl))).mono ?_
 rintro e w1 ⟨rfl, hb⟩
 have E2 := Zh (E1.out.below hb)
 clear E0 E1 hb
 have b1 := E2.out.bx 0 rfl
 have c1_0 := b1.cell 0 rfl
 have f1_0 := b1.frozen 0
 clear b1
 go_wp2
 have E3 : Hid (Env (fun _ => True) w [(w.heap.size + 1 + 1, 24, [.slice none 0 0]), (w.heap.size + 1, 24, [.slice ra (len R) rk]), (w.heap.size, 26, [.slice na (len N) nk, .slice ea (len E) ek])] [.gn (gS (.slice ra (len R) rk) (digs R)), .gn (gS (.slice ea (len E) ek) (digs E)), .gn (gS (.slice na (len N) nk) (digs N))] _) := Zh ((E2.out.set 0 0 (.slice none 0 0) rfl))
 have hfin := E3.out
 have q2 := (hfin.bx 0 rfl).cell 0 rfl
 exact bodyPost_ret (v := .tuple #[.agg #[.slice none 0 0], .int .i64 2]) (by simp [results, Tryz.results46, go_sem, q2]) rfl ⟨⟨none, 0, rfl⟩, hfin.bel⟩
theorem factor_n (N E R : Nat) {na ea ra : Option Addr} {nk ek rk : Nat} {w : World} (hN : Sl w (.slice na (len N) nk) (digs N)) (hE : Sl w (.slice ea (len E) ek) (digs E)) (hR : Sl w (.slice ra (len R) rk) (digs R)) (HK0 : Key N E) (hz : R ≠ 0) (lR0 : len R ≤ 64) (h10 : decide (R < N) = true) (hg0 : decide (Nn.NatMath.invG R N = 1) = false) :
  Calls Tryz.prog 46 #[.agg #[.slice na (len N) nk, .slice ea (len E) ek], .agg #[.slice ra (len R) rk]] w fun e w' => ResZ 10 e ∧ Below w.heap.size w w' := by
 have E0 := Zh ((((Env.start (fun _ => True) w).argS hN).argS hE).argS hR)
 clear hN hE hR
 go_enter Tryz.func46, Tryz.ntmps46
 have HK := Zh HK0
 have lR := Zh lR0
 have h1 := Zh h10
 have hg := Zh hg0
 clear HK0 lR0 h10 hg0
 obtain ⟨z1, z2⟩ := len_zero_beq hz
 clear hz
 have lN := Zh (Nat.le_trans HK.out.lN (by omega : 32 ≤ 64))
 have HR := Zh (of_decide_eq_true h1.out)
 have E1 := Zh ((((E0.out.push 26 [.slice na (len N) nk, .slice ea (len E) ek] (w.heap.size) (by simp)).push 24 [.slice ra (len R) rk] (w.heap.size + 1) (by simp)).push 24 [.slice none 0 0] (w.heap.size + 1 + 1) (by simp)))
 go_wp2_with fail
 refine (vbelow_c h1.out lR.out lN.out (gS.sl (E1.out.fc 0 rfl)) (gS.sl (E1.out.fc 2 rfl))).mono ?_
 rintro e w1 ⟨rfl, hb⟩
 have E2 := Zh (E1.out.below hb)
 clear E0 E1 hb
 have b1 := E2.out.bx 1 rfl
 have c1_0 := b1.cell 0 rfl
 clear b1
 have b2 := E2.out.bx 2 rfl
 have c2_0 := b2.cell 0 rfl
 clear b2
 go_wp2_with fail
 refine (Nn.inv_n hg.out HR.out HK.out.lN (gS.sl (E2.out.fc 0 rfl)) (gS.sl (E2.out.fc 2 rfl))).mono ?_
 rintro e w2 ⟨⟨ia, ik, rfl⟩, hb⟩
 have E3 := Zh (E2.out.below hb)
 clear c1_0 c2_0 E2 hb
 have b3 := E3.out.bx 0 rfl
 have c3_0 := b3.cell 0 rfl
 have f3_0 := b3.frozen 0
 clear b3
 go_wp2
 have E4 : Hid (Env (fun _ => True) w [(w.heap.size + 1 + 1, 24, [.slice ia 0 ik]), (w.heap.size + 1, 24, [.slice ra (len R) rk]), (w.heap.size, 26, [.slice na (len N) nk, .slice ea (len E) ek])] [.gn (gS (.slice ra (len R) rk) (digs R)), .gn (gS (.slice ea (len E) ek) (digs E)), .gn (gS (.slice na (len N) nk) (digs N))] _) := Zh ((E3.out.set 0 0 (.slice ia 0 ik) rfl))
 have hfin := E4.out
 have q4 := (hfin.bx 0 rfl).cell 0 rfl
 exact bodyPost_ret (v := .tuple #[.agg #[.slice ia 0 ik], .int .i64 10]) (by simp [results, Tryz.results46, go_sem, q4]) rfl ⟨⟨ia, ik, rfl⟩, hfin.bel⟩
theorem factor_ok (N E R : Nat) {na ea ra : Option Addr} {nk ek rk : Nat} {w : World} (hN : Sl w (.slice na (len N) nk) (digs N)) (hE : Sl w (.slice ea (len E) ek) (digs E)) (hR : Sl w (.slice ra (len R) rk) (digs R)) (HK0 : Key N E) (hz : R ≠ 0) (lR0 : len R ≤ 64) (h10 : decide (R < N) = true) {v : Nat} (hg0 : decide (Nn.NatMath.invG R N = 1) = true) (hV0 : Nn.NatMath.invV R N = v) :
  Calls Tryz.prog 46 #[.agg #[.slice na (len N) nk, .slice ea (len E) ek], .agg #[.slice ra (len R) rk]] w fun e w' => ResN v 0 e w' ∧ Below w.heap.size w w' := by
 have E0 := Zh ((((Env.start (fun _ => True) w).argS hN).argS hE).argS hR)
 clear hN hE hR
 go_enter Tryz.func46, Tryz.ntmps46
 have HK := Zh HK0
 have lR := Zh lR0
 have h1 := Zh h10
 have hg := Zh hg0
 have hV := Zh hV0
 clear HK0 lR0 h10 hg0 hV0
 obtain ⟨z1, z2⟩ := len_zero_beq hz
 clear hz
 have lN := Zh (Nat.le_trans HK.out.lN (by omega : 32 ≤ 64))
 have HR := Zh (of_decide_eq_true h1.out)
 have E1 := Zh ((((E0.out.push 26 [.slice na (len N) nk, .slice ea (len E) ek] (w.heap.size) (by simp)).push 24 [.slice ra (len R) rk] (w.heap.size + 1) (by simp)).push 24 [.slice none 0 0] (w.heap.size + 1 + 1) (by simp)))
 go_wp2_with fail
 refine (vbelow_c h1.out lR.out lN.out (gS.sl (E1.out.fc 0 rfl)) (gS.sl (E1.out.fc 2 rfl))).mono ?_
 rintro e w1 ⟨rfl, hb⟩
 have E2 := Zh (E1.out.below hb)
 clear E0 E1 hb
 have b1 := E2.out.bx 1 rfl
 have c1_0 := b1.cell 0 rfl
 clear b1
 have b2 := E2.out.bx 2 rfl
 have c2_0 := b2.cell 0 rfl
 clear b2
 go_wp2_with fail
 refine (Nn.inv_m hV.out hg.out HR.out HK.out.lN (gS.sl (E2.out.fc 0 rfl)) (gS.sl (E2.out.fc 2 rfl))).mono ?_
 rintro e w2 ⟨⟨ia, ik, rfl, ih⟩, hb⟩
 have E3 := Zh ((E2.out.below hb).noteS ih.out rfl)
 clear c1_0 c2_0 E2 hb ih
 have b3 := E3.out.bx 0 rfl
 have c3_0 := b3.cell 0 rfl
 have f3_0 := b3.frozen 0
 clear b3
 go_wp2
 have E4 : Hid (Env (fun _ => True) w [(w.heap.size + 1 + 1, 24, [.slice ia (len v) ik]), (w.heap.size + 1, 24, [.slice ra (len R) rk]), (w.heap.size, 26, [.slice na (len N) nk, .slice ea (len E) ek])] [.gn (gS (.slice ia (len v) ik) (digs v)), .gn (gS (.slice ra (len R) rk) (digs R)), .gn (gS (.slice ea (len E) ek) (digs E)), .gn (gS (.slice na (len N) nk) (digs N))] _) := Zh ((E3.out.set 0 0 (.slice ia (len v) ik) rfl))
 have hfin := E4.out
 have q4 := (hfin.bx 0 rfl).cell 0 rfl
 exact bodyPost_ret (v := .tuple #[.agg #[.slice ia (len v) ik], .int .i64 0]) (by simp [results, Tryz.results46, go_sem, q4]) rfl ⟨⟨ia, ik, rfl, Zh (gS.sl (hfin.out 0 rfl))⟩, hfin.bel⟩
theorem factor_e {N E R : Nat} {na ea ra : Option Addr} {nk ek rk : Nat} {w : World} (hN : Sl w (.slice na (len N) nk) (digs N)) (hE : Sl w (.slice ea (len E) ek) (digs E)) (hR : Sl w (.slice ra (len R) rk) (digs R)) (HK : Key N E) (lR : len R ≤ 64) {c : Int} (hc : facC R N = c) (h0 : c ≠ 0) :
  Calls Tryz.prog 46 #[.agg #[.slice na (len N) nk, .slice ea (len E) ek], .agg #[.slice ra (len R) rk]] w fun e w' => ResZ c e ∧ Below w.heap.size w w' := by
 subst hc
 unfold facC at *
 by_cases hz : R = 0
 ·rw [if_pos (.inl hz)]; exact factor_z N E R hN hE hR hz
 ·by_cases h1 : R < N
  ·have h2 : ¬ (R = 0 ∨ ¬ R < N) := by omega
   rw [if_neg h2] at h0 ⊢
   by_cases hg : Nn.NatMath.invG R N = 1
   ·rw [if_pos hg] at h0; exact absurd rfl h0
   ·rw [if_neg hg]; exact factor_n N E R hN hE hR HK hz lR (decide_eq_true h1) (decide_eq_false hg)
  ·rw [if_pos (.inr h1)]; exact factor_r N E R hN hE hR HK hz lR (decide_eq_false h1)
theorem facC_0 {R N : Nat} (h : facC R N = 0) : (R ≠ 0 ∧ R < N) ∧ Nn.NatMath.invG R N = 1 := by
 unfold facC at h
 by_cases h1 : R = 0 ∨ ¬ R < N
 ·rw [if_pos h1] at h; cases h
 ·rw [if_neg h1] at h
  by_cases h2 : Nn.NatMath.invG R N = 1
  ·exact ⟨by omega, h2⟩
  ·rw [if_neg h2] at h; cases h
theorem Sign_1 (lN lE lD lM : List Nat) {na ea da ma : Option Addr} {nk ek dk mk : Nat} {w : World} (hN : Sl w (.slice na lN.length nk) lN) (hE : Sl w (.slice ea lE.length ek) lE) (hD : Sl w (.slice da lD.length dk) lD) (hM : Sl w (.slice ma lM.length mk) lM) (hk0 : kV lN lE = false) :
  Calls Tryz.prog 18 #[.agg #[.slice na lN.length nk, .slice ea lE.length ek], .agg #[.slice da lD.length dk], .agg #[.slice ma lM.length mk]] w fun e w' => e = .returned (.tuple #[.agg #[.slice none 0 0], .int .i64 1]) ∧ Below w.heap.size w w' := by
 have E0 := Zh (((((Env.start (fun _ => True) w).argS hN).argS hE).argS hD).argS hM)
 clear hN hE hD hM
 go_enter Tryz.func18, Tryz.ntmps18
 have hk := Zh hk0
 clear hk0
 have E1 := Zh (((((E0.out.push 26 [.slice na lN.length nk, .slice ea lE.length ek] (w.heap.size) (by simp)).push 24 [.slice da lD.length dk] (w.heap.size + 1) (by simp)).push 24 [.slice ma lM.length mk] (w.heap.size + 1 + 1) (by simp)).push 24 [.slice none 0 0] (w.heap.size + 1 + 1 + 1) (by simp)))
 go_wp2_with fail
 refine (vKey_c hk.out (gS.sl (E1.out.fc 3 rfl)) (gS.sl (E1.out.fc 2 rfl))).mono ?_
 rintro e w1 ⟨rfl, hb⟩
 have E2 := Zh (E1.out.below hb)
 clear E0 E1 hb
 have b1 := E2.out.bx 0 rfl
 have c1_0 := b1.cell 0 rfl
 have f1_0 := b1.frozen 0
 clear b1
 go_wp2
 have E3 : Hid (Env (fun _ => True) w [(w.heap.size + 1 + 1 + 1, 24, [.slice none 0 0]), (w.heap.size + 1 + 1, 24, [.slice ma lM.length mk]), (w.heap.size + 1, 24, [.slice da lD.length dk]), (w.heap.size, 26, [.slice na lN.length nk, .slice ea lE.length ek])] [.gn (gS (.slice ma lM.length mk) lM), .gn (gS (.slice da lD.length dk) lD), .gn (gS (.slice ea lE.length ek) lE), .gn (gS (.slice na lN.length nk) lN)] _) := Zh ((E2.out.set 0 0 (.slice none 0 0) rfl))
 have hfin := E3.out
 have q2 := (hfin.bx 0 rfl).cell 0 rfl
 exact bodyPost_ret (v := .tuple #[.agg #[.slice none 0 0], .int .i64 1]) (by simp [results, Tryz.results18, go_sem, q2]) rfl ⟨rfl, hfin.bel⟩
theorem Sign_2 (N E : Nat) (lD lM : List Nat) {na ea da ma : Option Addr} {nk ek dk mk : Nat} {w : World} (hN : Sl w (.slice na (len N) nk) (digs N)) (hE : Sl w (.slice ea (len E) ek) (digs E)) (hD : Sl w (.slice da lD.length dk) lD) (hM : Sl w (.slice ma lM.length mk) lM) (HK0 : Key N E) (hv0 : [lD, lM].all vld = false) :
  Calls Tryz.prog 18 #[.agg #[.slice na (len N) nk, .slice ea (len E) ek], .agg #[.slice da lD.length dk], .agg #[.slice ma lM.length mk]] w fun e w' => e = .returned (.tuple #[.agg #[.slice none 0 0], .int .i64 1]) ∧ Below w.heap.size w w' := by
 have E0 := Zh (((((Env.start (fun _ => True) w).argS hN).argS hE).argS hD).argS hM)
 clear hN hE hD hM
 go_enter Tryz.func18, Tryz.ntmps18
 have HK := Zh HK0
 have hv := Zh hv0
 clear HK0 hv0
 have E1 := Zh (((((E0.out.push 26 [.slice na (len N) nk, .slice ea (len E) ek] (w.heap.size) (by simp)).push 24 [.slice da lD.length dk] (w.heap.size + 1) (by simp)).push 24 [.slice ma lM.length mk] (w.heap.size + 1 + 1) (by simp)).push 24 [.slice none 0 0] (w.heap.size + 1 + 1 + 1) (by simp)))
 go_wp2_with fail
 refine (vKey_c HK.out.k (gS.sl (E1.out.fc 3 rfl)) (gS.sl (E1.out.fc 2 rfl))).mono ?_
 rintro e w1 ⟨rfl, hb⟩
 have E2 := Zh (E1.out.below hb)
 clear E0 E1 hb
 have b1 := E2.out.bx 2 rfl
 have c1_0 := b1.cell 0 rfl
 clear b1
 have b2 := E2.out.bx 1 rfl
 have c2_0 := b2.cell 0 rfl
 clear b2
 have E3 := Zh ((E2.out.push 24 [.slice da lD.length dk, .slice ma lM.length mk] (w1.heap.size) (by simp)))
 go_wp2_with fail
 refine (valid_c [lD, lM] (xb := w1.heap.size) (xo := 0) (xk := 2) (gNs.box (E3.out.bx 0 rfl) ⟨(gS.sl (E3.out.fc 1 rfl)), ⟨(gS.sl (E3.out.fc 0 rfl)), trivial⟩⟩) (t := false) hv.out (by simp)).mono ?_
 rintro e w2 ⟨rfl, hb⟩
 have E4 := Zh (E3.out.below hb)
 clear c1_0 c2_0 E2 E3 hb
 have b3 := E4.out.bx 1 rfl
 have c3_0 := b3.cell 0 rfl
 have f3_0 := b3.frozen 0
 clear b3
 go_wp2
 have E5 : Hid (Env (fun _ => True) w [(w1.heap.size, 24, [.slice da lD.length dk, .slice ma lM.length mk]), (w.heap.size + 1 + 1 + 1, 24, [.slice none 0 0]), (w.heap.size + 1 + 1, 24, [.slice ma lM.length mk]), (w.heap.size + 1, 24, [.slice da lD.length dk]), (w.heap.size, 26, [.slice na (len N) nk, .slice ea (len E) ek])] [.gn (gS (.slice ma lM.length mk) lM), .gn (gS (.slice da lD.length dk) lD), .gn (gS (.slice ea (len E) ek) (digs E)), .gn (gS (.slice na (len N) nk) (digs N))] _) := Zh ((E4.out.set 1 0 (.slice none 0 0) rfl))
 have hfin := E5.out
 have q4 := (hfin.bx 1 rfl).cell 0 rfl
 exact bodyPost_ret (v := .tuple #[.agg #[.slice none 0 0], .int .i64 1]) (by simp [results, Tryz.results18, go_sem, q4]) rfl ⟨rfl, hfin.bel⟩
theorem Sign_3 (N E D M : Nat) {na ea da ma : Option Addr} {nk ek dk mk : Nat} {w : World} (hN : Sl w (.slice na (len N) nk) (digs N)) (hE : Sl w (.slice ea (len E) ek) (digs E)) (hD : Sl w (.slice da (len D) dk) (digs D)) (hM : Sl w (.slice ma (len M) mk) (digs M)) (HK0 : Key N E) (hv0 : [digs D, digs M].all vld = true) (lD0 : len D ≤ 64) (lM0 : len M ≤ 64) (h10 : decide (D < N) = false) :
  Calls Tryz.prog 18 #[.agg #[.slice na (len N) nk, .slice ea (len E) ek], .agg #[.slice da (len D) dk], .agg #[.slice ma (len M) mk]] w fun e w' => e = .returned (.tuple #[.agg #[.slice none 0 0], .int .i64 2]) ∧ Below w.heap.size w w' := by
 have E0 := Zh (((((Env.start (fun _ => True) w).argS hN).argS hE).argS hD).argS hM)
 clear hN hE hD hM
 go_enter Tryz.func18, Tryz.ntmps18
 have HK := Zh HK0
 have hv := Zh hv0
 have lD := Zh lD0
 have lM := Zh lM0
 have h1 := Zh h10
 clear HK0 hv0 lD0 lM0 h10
 have lN := Zh (Nat.le_trans HK.out.lN (by omega : 32 ≤ 64))
 have E1 := Zh (((((E0.out.push 26 [.slice na (len N) nk, .slice ea (len E) ek] (w.heap.size) (by simp)).push 24 [.slice da (len D) dk] (w.heap.size + 1) (by simp)).push 24 [.slice ma (len M) mk] (w.heap.size + 1 + 1) (by simp)).push 24 [.slice none 0 0] (w.heap.size + 1 + 1 + 1) (by simp)))
 go_wp2_with fail
 refine (vKey_c HK.out.k (gS.sl (E1.out.fc 3 rfl)) (gS.sl (E1.out.fc 2 rfl))).mono ?_
 rintro e w1 ⟨rfl, hb⟩
 have E2 := Zh (E1.out.below hb)
 clear E0 E1 hb
 have b1 := E2.out.bx 2 rfl
 have c1_0 := b1.cell 0 rfl
 clear b1
 have b2 := E2.out.bx 1 rfl
 have c2_0 := b2.cell 0 rfl
 clear b2
 have E3 := Zh ((E2.out.push 24 [.slice da (len D) dk, .slice ma (len M) mk] (w1.heap.size) (by simp)))
 go_wp2_with fail
 refine (valid_c [(digs D), (digs M)] (xb := w1.heap.size) (xo := 0) (xk := 2) (gNs.box (E3.out.bx 0 rfl) ⟨(gS.sl (E3.out.fc 1 rfl)), ⟨(gS.sl (E3.out.fc 0 rfl)), trivial⟩⟩) (t := true) hv.out (by simp)).mono ?_
 rintro e w2 ⟨rfl, hb⟩
 have E4 := Zh (E3.out.below hb)
 clear c1_0 c2_0 E2 E3 hb
 have b3 := E4.out.bx 3 rfl
 have c3_0 := b3.cell 0 rfl
 clear b3
 have b4 := E4.out.bx 4 rfl
 have c4_0 := b4.cell 0 rfl
 clear b4
 go_wp2_with fail
 refine (vbelow_c h1.out lD.out lN.out (gS.sl (E4.out.fc 1 rfl)) (gS.sl (E4.out.fc 3 rfl))).mono ?_
 rintro e w3 ⟨rfl, hb⟩
 have E5 := Zh (E4.out.below hb)
 clear c3_0 c4_0 E4 hb
 have b5 := E5.out.bx 1 rfl
 have c5_0 := b5.cell 0 rfl
 have f5_0 := b5.frozen 0
 clear b5
 go_wp2
 have E6 : Hid (Env (fun _ => True) w [(w1.heap.size, 24, [.slice da (len D) dk, .slice ma (len M) mk]), (w.heap.size + 1 + 1 + 1, 24, [.slice none 0 0]), (w.heap.size + 1 + 1, 24, [.slice ma (len M) mk]), (w.heap.size + 1, 24, [.slice da (len D) dk]), (w.heap.size, 26, [.slice na (len N) nk, .slice ea (len E) ek])] [.gn (gS (.slice ma (len M) mk) (digs M)), .gn (gS (.slice da (len D) dk) (digs D)), .gn (gS (.slice ea (len E) ek) (digs E)), .gn (gS (.slice na (len N) nk) (digs N))] _) := Zh ((E5.out.set 1 0 (.slice none 0 0) rfl))
 have hfin := E6.out
 have q6 := (hfin.bx 1 rfl).cell 0 rfl
 exact bodyPost_ret (v := .tuple #[.agg #[.slice none 0 0], .int .i64 2]) (by simp [results, Tryz.results18, go_sem, q6]) rfl ⟨rfl, hfin.bel⟩
theorem Sign_3b (N E D M : Nat) {na ea da ma : Option Addr} {nk ek dk mk : Nat} {w : World} (hN : Sl w (.slice na (len N) nk) (digs N)) (hE : Sl w (.slice ea (len E) ek) (digs E)) (hD : Sl w (.slice da (len D) dk) (digs D)) (hM : Sl w (.slice ma (len M) mk) (digs M)) (HK0 : Key N E) (hv0 : [digs D, digs M].all vld = true) (lD0 : len D ≤ 64) (lM0 : len M ≤ 64) (h10 : decide (D < N) = true) (h20 : decide (M < N) = false) :
  Calls Tryz.prog 18 #[.agg #[.slice na (len N) nk, .slice ea (len E) ek], .agg #[.slice da (len D) dk], .agg #[.slice ma (len M) mk]] w fun e w' => e = .returned (.tuple #[.agg #[.slice none 0 0], .int .i64 2]) ∧ Below w.heap.size w w' := by
 have E0 := Zh (((((Env.start (fun _ => True) w).argS hN).argS hE).argS hD).argS hM)
 clear hN hE hD hM
 go_enter Tryz.func18, Tryz.ntmps18
 have HK := Zh HK0
 have hv := Zh hv0
 have lD := Zh lD0
 have lM := Zh lM0
 have h1 := Zh h10
 have h2 := Zh h20
 clear HK0 hv0 lD0 lM0 h10 h20
 have lN := Zh (Nat.le_trans HK.out.lN (by omega : 32 ≤ 64))
 have E1 := Zh (((((E0.out.push 26 [.slice na (len N) nk, .slice ea (len E) ek] (w.heap.size) (by simp)).push 24 [.slice da (len D) dk] (w.heap.size + 1) (by simp)).push 24 [.slice ma (len M) mk] (w.heap.size + 1 + 1) (by simp)).push 24 [.slice none 0 0] (w.heap.size + 1 + 1 + 1) (by simp)))
 go_wp2_with fail
 refine (vKey_c HK.out.k (gS.sl (E1.out.fc 3 rfl)) (gS.sl (E1.out.fc 2 rfl))).mono ?_
 rintro e w1 ⟨rfl, hb⟩
 have E2 := Zh (E1.out.below hb)
 clear E0 E1 hb
 have b1 := E2.out.bx 2 rfl
 have c1_0 := b1.cell 0 rfl
 clear b1
 have b2 := E2.out.bx 1 rfl
 have c2_0 := b2.cell 0 rfl
 clear b2
 have E3 := Zh ((E2.out.push 24 [.slice da (len D) dk, .slice ma (len M) mk] (w1.heap.size) (by simp)))
 go_wp2_with fail
 refine (valid_c [(digs D), (digs M)] (xb := w1.heap.size) (xo := 0) (xk := 2) (gNs.box (E3.out.bx 0 rfl) ⟨(gS.sl (E3.out.fc 1 rfl)), ⟨(gS.sl (E3.out.fc 0 rfl)), trivial⟩⟩) (t := true) hv.out (by simp)).mono ?_
 rintro e w2 ⟨rfl, hb⟩
 have E4 := Zh (E3.out.below hb)
 clear c1_0 c2_0 E2 E3 hb
 have b3 := E4.out.bx 3 rfl
 have c3_0 := b3.cell 0 rfl
 clear b3
 have b4 := E4.out.bx 4 rfl
 have c4_0 := b4.cell 0 rfl
 clear b4
 go_wp2_with fail
 refine (vbelow_c h1.out lD.out lN.out (gS.sl (E4.out.fc 1 rfl)) (gS.sl (E4.out.fc 3 rfl))).mono ?_
 rintro e w3 ⟨rfl, hb⟩
 have E5 := Zh (E4.out.below hb)
 clear c3_0 c4_0 E4 hb
 have b5 := E5.out.bx 2 rfl
 have c5_0 := b5.cell 0 rfl
 clear b5
 have b6 := E5.out.bx 4 rfl
 have c6_0 := b6.cell 0 rfl
 clear b6
 go_wp2_with fail
 refine (vbelow_c h2.out lM.out lN.out (gS.sl (E5.out.fc 0 rfl)) (gS.sl (E5.out.fc 3 rfl))).mono ?_
 rintro e w4 ⟨rfl, hb⟩
 have E6 := Zh (E5.out.below hb)
 clear c5_0 c6_0 E5 hb
 have b7 := E6.out.bx 1 rfl
 have c7_0 := b7.cell 0 rfl
 have f7_0 := b7.frozen 0
 clear b7
 go_wp2
 have E7 : Hid (Env (fun _ => True) w [(w1.heap.size, 24, [.slice da (len D) dk, .slice ma (len M) mk]), (w.heap.size + 1 + 1 + 1, 24, [.slice none 0 0]), (w.heap.size + 1 + 1, 24, [.slice ma (len M) mk]), (w.heap.size + 1, 24, [.slice da (len D) dk]), (w.heap.size, 26, [.slice na (len N) nk, .slice ea (len E) ek])] [.gn (gS (.slice ma (len M) mk) (digs M)), .gn (gS (.slice da (len D) dk) (digs D)), .gn (gS (.slice ea (len E) ek) (digs E)), .gn (gS (.slice na (len N) nk) (digs N))] _) := Zh ((E6.out.set 1 0 (.slice none 0 0) rfl))
 have hfin := E7.out
 have q8 := (hfin.bx 1 rfl).cell 0 rfl
 exact bodyPost_ret (v := .tuple #[.agg #[.slice none 0 0], .int .i64 2]) (by simp [results, Tryz.results18, go_sem, q8]) rfl ⟨rfl, hfin.bel⟩
theorem Sign_ok (N E D M : Nat) {na ea da ma : Option Addr} {nk ek dk mk : Nat} {w : World} (hN : Sl w (.slice na (len N) nk) (digs N)) (hE : Sl w (.slice ea (len E) ek) (digs E)) (hD : Sl w (.slice da (len D) dk) (digs D)) (hM : Sl w (.slice ma (len M) mk) (digs M)) (HK0 : Key N E) (hv0 : [digs D, digs M].all vld = true) (lD0 : len D ≤ 64) (lM0 : len M ≤ 64) (h10 : decide (D < N) = true) (h20 : decide (M < N) = true) {r : Nat} (hr0 : M ^ D % N = r) :
  Calls Tryz.prog 18 #[.agg #[.slice na (len N) nk, .slice ea (len E) ek], .agg #[.slice da (len D) dk], .agg #[.slice ma (len M) mk]] w fun e w' => ResN r 0 e w' ∧ Below w.heap.size w w' := by
 have E0 := Zh (((((Env.start (fun _ => True) w).argS hN).argS hE).argS hD).argS hM)
 clear hN hE hD hM
 go_enter Tryz.func18, Tryz.ntmps18
 have HK := Zh HK0
 have hv := Zh hv0
 have lD := Zh lD0
 have lM := Zh lM0
 have h1 := Zh h10
 have h2 := Zh h20
 have hr := Zh hr0
 clear HK0 hv0 lD0 lM0 h10 h20 hr0
 have HM := Zh (of_decide_eq_true h2.out)
 have lN := Zh (Nat.le_trans HK.out.lN (by omega : 32 ≤ 64))
 have E1 := Zh (((((E0.out.push 26 [.slice na (len N) nk, .slice ea (len E) ek] (w.heap.size) (by simp)).push 24 [.slice da (len D) dk] (w.heap.size + 1) (by simp)).push 24 [.slice ma (len M) mk] (w.heap.size + 1 + 1) (by simp)).push 24 [.slice none 0 0] (w.heap.size + 1 + 1 + 1) (by simp)))
 go_wp2_with fail
 refine (vKey_c HK.out.k (gS.sl (E1.out.fc 3 rfl)) (gS.sl (E1.out.fc 2 rfl))).mono ?_
 rintro e w1 ⟨rfl, hb⟩
 have E2 := Zh (E1.out.below hb)
 clear E0 E1 hb
 have b1 := E2.out.bx 2 rfl
 have c1_0 := b1.cell 0 rfl
 clear b1
 have b2 := E2.out.bx 1 rfl
 have c2_0 := b2.cell 0 rfl
 clear b2
 have E3 := Zh ((E2.out.push 24 [.slice da (len D) dk, .slice ma (len M) mk] (w1.heap.size) (by simp)))
 go_wp2_with fail
 refine (valid_c [(digs D), (digs M)] (xb := w1.heap.size) (xo := 0) (xk := 2) (gNs.box (E3.out.bx 0 rfl) ⟨(gS.sl (E3.out.fc 1 rfl)), ⟨(gS.sl (E3.out.fc 0 rfl)), trivial⟩⟩) (t := true) hv.out (by simp)).mono ?_
 rintro e w2 ⟨rfl, hb⟩
 have E4 := Zh (E3.out.below hb)
 clear c1_0 c2_0 E2 E3 hb
 have b3 := E4.out.bx 3 rfl
 have c3_0 := b3.cell 0 rfl
 clear b3
 have b4 := E4.out.bx 4 rfl
 have c4_0 := b4.cell 0 rfl
 clear b4
 go_wp2_with fail
 refine (vbelow_c h1.out lD.out lN.out (gS.sl (E4.out.fc 1 rfl)) (gS.sl (E4.out.fc 3 rfl))).mono ?_
 rintro e w3 ⟨rfl, hb⟩
 have E5 := Zh (E4.out.below hb)
 clear c3_0 c4_0 E4 hb
 have b5 := E5.out.bx 2 rfl
 have c5_0 := b5.cell 0 rfl
 clear b5
 have b6 := E5.out.bx 4 rfl
 have c6_0 := b6.cell 0 rfl
 clear b6
 go_wp2_with fail
 refine (vbelow_c h2.out lM.out lN.out (gS.sl (E5.out.fc 0 rfl)) (gS.sl (E5.out.fc 3 rfl))).mono ?_
 rintro e w4 ⟨rfl, hb⟩
 have E6 := Zh (E5.out.below hb)
 clear c5_0 c6_0 E5 hb
 have b7 := E6.out.bx 2 rfl
 have c7_0 := b7.cell 0 rfl
 clear b7
 have b8 := E6.out.bx 3 rfl
 have c8_0 := b8.cell 0 rfl
 clear b8
 have b9 := E6.out.bx 4 rfl
 have c9_0 := b9.cell 0 rfl
 clear b9
 go_wp2_with fail
 refine (Nn.pow_m hr.out lD.out HM.out HK.out.lN (gS.sl (E6.out.fc 0 rfl)) (gS.sl (E6.out.fc 1 rfl)) (gS.sl (E6.out.fc 3 rfl))).mono ?_
 rintro e w5 ⟨⟨oa, ok, rfl, oh⟩, hb⟩
 have E7 := Zh ((E6.out.below hb).noteS oh.out rfl)
 clear c7_0 c8_0 c9_0 E6 hb oh
 have b10 := E7.out.bx 1 rfl
 have c10_0 := b10.cell 0 rfl
 have f10_0 := b10.frozen 0
 clear b10
 go_wp2
 have E8 : Hid (Env (fun _ => True) w [(w1.heap.size, 24, [.slice da (len D) dk, .slice ma (len M) mk]), (w.heap.size + 1 + 1 + 1, 24, [.slice oa (len r) ok]), (w.heap.size + 1 + 1, 24, [.slice ma (len M) mk]), (w.heap.size + 1, 24, [.slice da (len D) dk]), (w.heap.size, 26, [.slice na (len N) nk, .slice ea (len E) ek])] [.gn (gS (.slice oa (len r) ok) (digs r)), .gn (gS (.slice ma (len M) mk) (digs M)), .gn (gS (.slice da (len D) dk) (digs D)), .gn (gS (.slice ea (len E) ek) (digs E)), .gn (gS (.slice na (len N) nk) (digs N))] _) := Zh ((E7.out.set 1 0 (.slice oa (len r) ok) rfl))
 have hfin := E8.out
 have q11 := (hfin.bx 1 rfl).cell 0 rfl
 exact bodyPost_ret (v := .tuple #[.agg #[.slice oa (len r) ok], .int .i64 0]) (by simp [results, Tryz.results18, go_sem, q11]) rfl ⟨⟨oa, ok, rfl, Zh (gS.sl (hfin.out 0 rfl))⟩, hfin.bel⟩
theorem Unblind_1 (lN lE lM lR : List Nat) {na ea ma ra : Option Addr} {nk ek mk rk : Nat} {w : World} (hN : Sl w (.slice na lN.length nk) lN) (hE : Sl w (.slice ea lE.length ek) lE) (hM : Sl w (.slice ma lM.length mk) lM) (hR : Sl w (.slice ra lR.length rk) lR) (hk0 : kV lN lE = false) :
  Calls Tryz.prog 20 #[.agg #[.slice na lN.length nk, .slice ea lE.length ek], .agg #[.slice ma lM.length mk], .agg #[.slice ra lR.length rk]] w fun e w' => e = .returned (.tuple #[.agg #[.slice none 0 0], .int .i64 1]) ∧ Below w.heap.size w w' := by
 have E0 := Zh (((((Env.start (fun _ => True) w).argS hN).argS hE).argS hM).argS hR)
 clear hN hE hM hR
 go_enter Tryz.func20, Tryz.ntmps20
 have hk := Zh hk0
 clear hk0
 have E1 := Zh (((((E0.out.push 26 [.slice na lN.length nk, .slice ea lE.length ek] (w.heap.size) (by simp)).push 24 [.slice ma lM.length mk] (w.heap.size + 1) (by simp)).push 24 [.slice ra lR.length rk] (w.heap.size + 1 + 1) (by simp)).push 24 [.slice none 0 0] (w.heap.size + 1 + 1 + 1) (by simp)))
 go_wp2_with fail
 refine (vKey_c hk.out (gS.sl (E1.out.fc 3 rfl)) (gS.sl (E1.out.fc 2 rfl))).mono ?_
 rintro e w1 ⟨rfl, hb⟩
 have E2 := Zh (E1.out.below hb)
 clear E0 E1 hb
 have b1 := E2.out.bx 0 rfl
 have c1_0 := b1.cell 0 rfl
 have f1_0 := b1.frozen 0
 clear b1
 go_wp2
 have E3 : Hid (Env (fun _ => True) w [(w.heap.size + 1 + 1 + 1, 24, [.slice none 0 0]), (w.heap.size + 1 + 1, 24, [.slice ra lR.length rk]), (w.heap.size + 1, 24, [.slice ma lM.length mk]), (w.heap.size, 26, [.slice na lN.length nk, .slice ea lE.length ek])] [.gn (gS (.slice ra lR.length rk) lR), .gn (gS (.slice ma lM.length mk) lM), .gn (gS (.slice ea lE.length ek) lE), .gn (gS (.slice na lN.length nk) lN)] _) := Zh ((E2.out.set 0 0 (.slice none 0 0) rfl))
 have hfin := E3.out
 have q2 := (hfin.bx 0 rfl).cell 0 rfl
 exact bodyPost_ret (v := .tuple #[.agg #[.slice none 0 0], .int .i64 1]) (by simp [results, Tryz.results20, go_sem, q2]) rfl ⟨rfl, hfin.bel⟩
theorem Unblind_2 (N E : Nat) (lM lR : List Nat) {na ea ma ra : Option Addr} {nk ek mk rk : Nat} {w : World} (hN : Sl w (.slice na (len N) nk) (digs N)) (hE : Sl w (.slice ea (len E) ek) (digs E)) (hM : Sl w (.slice ma lM.length mk) lM) (hR : Sl w (.slice ra lR.length rk) lR) (HK0 : Key N E) (hv0 : [lM, lR].all vld = false) :
  Calls Tryz.prog 20 #[.agg #[.slice na (len N) nk, .slice ea (len E) ek], .agg #[.slice ma lM.length mk], .agg #[.slice ra lR.length rk]] w fun e w' => e = .returned (.tuple #[.agg #[.slice none 0 0], .int .i64 1]) ∧ Below w.heap.size w w' := by
 have E0 := Zh (((((Env.start (fun _ => True) w).argS hN).argS hE).argS hM).argS hR)
 clear hN hE hM hR
 go_enter Tryz.func20, Tryz.ntmps20
 have HK := Zh HK0
 have hv := Zh hv0
 clear HK0 hv0
 have E1 := Zh (((((E0.out.push 26 [.slice na (len N) nk, .slice ea (len E) ek] (w.heap.size) (by simp)).push 24 [.slice ma lM.length mk] (w.heap.size + 1) (by simp)).push 24 [.slice ra lR.length rk] (w.heap.size + 1 + 1) (by simp)).push 24 [.slice none 0 0] (w.heap.size + 1 + 1 + 1) (by simp)))
 go_wp2_with fail
 refine (vKey_c HK.out.k (gS.sl (E1.out.fc 3 rfl)) (gS.sl (E1.out.fc 2 rfl))).mono ?_
 rintro e w1 ⟨rfl, hb⟩
 have E2 := Zh (E1.out.below hb)
 clear E0 E1 hb
 have b1 := E2.out.bx 2 rfl
 have c1_0 := b1.cell 0 rfl
 clear b1
 have b2 := E2.out.bx 1 rfl
 have c2_0 := b2.cell 0 rfl
 clear b2
 have E3 := Zh ((E2.out.push 24 [.slice ma lM.length mk, .slice ra lR.length rk] (w1.heap.size) (by simp)))
 go_wp2_with fail
 refine (valid_c [lM, lR] (xb := w1.heap.size) (xo := 0) (xk := 2) (gNs.box (E3.out.bx 0 rfl) ⟨(gS.sl (E3.out.fc 1 rfl)), ⟨(gS.sl (E3.out.fc 0 rfl)), trivial⟩⟩) (t := false) hv.out (by simp)).mono ?_
 rintro e w2 ⟨rfl, hb⟩
 have E4 := Zh (E3.out.below hb)
 clear c1_0 c2_0 E2 E3 hb
 have b3 := E4.out.bx 1 rfl
 have c3_0 := b3.cell 0 rfl
 have f3_0 := b3.frozen 0
 clear b3
 go_wp2
 have E5 : Hid (Env (fun _ => True) w [(w1.heap.size, 24, [.slice ma lM.length mk, .slice ra lR.length rk]), (w.heap.size + 1 + 1 + 1, 24, [.slice none 0 0]), (w.heap.size + 1 + 1, 24, [.slice ra lR.length rk]), (w.heap.size + 1, 24, [.slice ma lM.length mk]), (w.heap.size, 26, [.slice na (len N) nk, .slice ea (len E) ek])] [.gn (gS (.slice ra lR.length rk) lR), .gn (gS (.slice ma lM.length mk) lM), .gn (gS (.slice ea (len E) ek) (digs E)), .gn (gS (.slice na (len N) nk) (digs N))] _) := Zh ((E4.out.set 1 0 (.slice none 0 0) rfl))
 have hfin := E5.out
 have q4 := (hfin.bx 1 rfl).cell 0 rfl
 exact bodyPost_ret (v := .tuple #[.agg #[.slice none 0 0], .int .i64 1]) (by simp [results, Tryz.results20, go_sem, q4]) rfl ⟨rfl, hfin.bel⟩
theorem Unblind_3 (N E M R : Nat) {na ea ma ra : Option Addr} {nk ek mk rk : Nat} {w : World} (hN : Sl w (.slice na (len N) nk) (digs N)) (hE : Sl w (.slice ea (len E) ek) (digs E)) (hM : Sl w (.slice ma (len M) mk) (digs M)) (hR : Sl w (.slice ra (len R) rk) (digs R)) (HK0 : Key N E) (hv0 : [digs M, digs R].all vld = true) (lM0 : len M ≤ 64) (lR0 : len R ≤ 64) (h10 : decide (M < N) = false) :
  Calls Tryz.prog 20 #[.agg #[.slice na (len N) nk, .slice ea (len E) ek], .agg #[.slice ma (len M) mk], .agg #[.slice ra (len R) rk]] w fun e w' => e = .returned (.tuple #[.agg #[.slice none 0 0], .int .i64 2]) ∧ Below w.heap.size w w' := by
 have E0 := Zh (((((Env.start (fun _ => True) w).argS hN).argS hE).argS hM).argS hR)
 clear hN hE hM hR
 go_enter Tryz.func20, Tryz.ntmps20
 have HK := Zh HK0
 have hv := Zh hv0
 have lM := Zh lM0
 have lR := Zh lR0
 have h1 := Zh h10
 clear HK0 hv0 lM0 lR0 h10
 have lN := Zh (Nat.le_trans HK.out.lN (by omega : 32 ≤ 64))
 have E1 := Zh (((((E0.out.push 26 [.slice na (len N) nk, .slice ea (len E) ek] (w.heap.size) (by simp)).push 24 [.slice ma (len M) mk] (w.heap.size + 1) (by simp)).push 24 [.slice ra (len R) rk] (w.heap.size + 1 + 1) (by simp)).push 24 [.slice none 0 0] (w.heap.size + 1 + 1 + 1) (by simp)))
 go_wp2_with fail
 refine (vKey_c HK.out.k (gS.sl (E1.out.fc 3 rfl)) (gS.sl (E1.out.fc 2 rfl))).mono ?_
 rintro e w1 ⟨rfl, hb⟩
 have E2 := Zh (E1.out.below hb)
 clear E0 E1 hb
 have b1 := E2.out.bx 2 rfl
 have c1_0 := b1.cell 0 rfl
 clear b1
 have b2 := E2.out.bx 1 rfl
 have c2_0 := b2.cell 0 rfl
 clear b2
 have E3 := Zh ((E2.out.push 24 [.slice ma (len M) mk, .slice ra (len R) rk] (w1.heap.size) (by simp)))
 go_wp2_with fail
 refine (valid_c [(digs M), (digs R)] (xb := w1.heap.size) (xo := 0) (xk := 2) (gNs.box (E3.out.bx 0 rfl) ⟨(gS.sl (E3.out.fc 1 rfl)), ⟨(gS.sl (E3.out.fc 0 rfl)), trivial⟩⟩) (t := true) hv.out (by simp)).mono ?_
 rintro e w2 ⟨rfl, hb⟩
 have E4 := Zh (E3.out.below hb)
 clear c1_0 c2_0 E2 E3 hb
 have b3 := E4.out.bx 3 rfl
 have c3_0 := b3.cell 0 rfl
 clear b3
 have b4 := E4.out.bx 4 rfl
 have c4_0 := b4.cell 0 rfl
 clear b4
 go_wp2_with fail
 refine (vbelow_c h1.out lM.out lN.out (gS.sl (E4.out.fc 1 rfl)) (gS.sl (E4.out.fc 3 rfl))).mono ?_
 rintro e w3 ⟨rfl, hb⟩
 have E5 := Zh (E4.out.below hb)
 clear c3_0 c4_0 E4 hb
 have b5 := E5.out.bx 1 rfl
 have c5_0 := b5.cell 0 rfl
 have f5_0 := b5.frozen 0
 clear b5
 go_wp2
 have E6 : Hid (Env (fun _ => True) w [(w1.heap.size, 24, [.slice ma (len M) mk, .slice ra (len R) rk]), (w.heap.size + 1 + 1 + 1, 24, [.slice none 0 0]), (w.heap.size + 1 + 1, 24, [.slice ra (len R) rk]), (w.heap.size + 1, 24, [.slice ma (len M) mk]), (w.heap.size, 26, [.slice na (len N) nk, .slice ea (len E) ek])] [.gn (gS (.slice ra (len R) rk) (digs R)), .gn (gS (.slice ma (len M) mk) (digs M)), .gn (gS (.slice ea (len E) ek) (digs E)), .gn (gS (.slice na (len N) nk) (digs N))] _) := Zh ((E5.out.set 1 0 (.slice none 0 0) rfl))
 have hfin := E6.out
 have q6 := (hfin.bx 1 rfl).cell 0 rfl
 exact bodyPost_ret (v := .tuple #[.agg #[.slice none 0 0], .int .i64 2]) (by simp [results, Tryz.results20, go_sem, q6]) rfl ⟨rfl, hfin.bel⟩
theorem Unblind_e (N E M R : Nat) {na ea ma ra : Option Addr} {nk ek mk rk : Nat} {w : World} (hN : Sl w (.slice na (len N) nk) (digs N)) (hE : Sl w (.slice ea (len E) ek) (digs E)) (hM : Sl w (.slice ma (len M) mk) (digs M)) (hR : Sl w (.slice ra (len R) rk) (digs R)) (HK0 : Key N E) (hv0 : [digs M, digs R].all vld = true) (lM0 : len M ≤ 64) (lR0 : len R ≤ 64) (h10 : decide (M < N) = true) {c : Int} (hc0 : facC R N = c) (hcn0 : c ≠ 0) :
  Calls Tryz.prog 20 #[.agg #[.slice na (len N) nk, .slice ea (len E) ek], .agg #[.slice ma (len M) mk], .agg #[.slice ra (len R) rk]] w fun e w' => e = .returned (.tuple #[.agg #[.slice none 0 0], .int .i64 c]) ∧ Below w.heap.size w w' := by
 have E0 := Zh (((((Env.start (fun _ => True) w).argS hN).argS hE).argS hM).argS hR)
 clear hN hE hM hR
 go_enter Tryz.func20, Tryz.ntmps20
 have HK := Zh HK0
 have hv := Zh hv0
 have lM := Zh lM0
 have lR := Zh lR0
 have h1 := Zh h10
 have hc := Zh hc0
 have hcn := Zh hcn0
 clear HK0 hv0 lM0 lR0 h10 hc0 hcn0
 have lN := Zh (Nat.le_trans HK.out.lN (by omega : 32 ≤ 64))
 have E1 := Zh (((((E0.out.push 26 [.slice na (len N) nk, .slice ea (len E) ek] (w.heap.size) (by simp)).push 24 [.slice ma (len M) mk] (w.heap.size + 1) (by simp)).push 24 [.slice ra (len R) rk] (w.heap.size + 1 + 1) (by simp)).push 24 [.slice none 0 0] (w.heap.size + 1 + 1 + 1) (by simp)))
 go_wp2_with fail
 refine (vKey_c HK.out.k (gS.sl (E1.out.fc 3 rfl)) (gS.sl (E1.out.fc 2 rfl))).mono ?_
 rintro e w1 ⟨rfl, hb⟩
 have E2 := Zh (E1.out.below hb)
 clear E0 E1 hb
 have b1 := E2.out.bx 2 rfl
 have c1_0 := b1.cell 0 rfl
 clear b1
 have b2 := E2.out.bx 1 rfl
 have c2_0 := b2.cell 0 rfl
 clear b2
 have E3 := Zh ((E2.out.push 24 [.slice ma (len M) mk, .slice ra (len R) rk] (w1.heap.size) (by simp)))
 go_wp2_with fail
 refine (valid_c [(digs M), (digs R)] (xb := w1.heap.size) (xo := 0) (xk := 2) (gNs.box (E3.out.bx 0 rfl) ⟨(gS.sl (E3.out.fc 1 rfl)), ⟨(gS.sl (E3.out.fc 0 rfl)), trivial⟩⟩) (t := true) hv.out (by simp)).mono ?_
 rintro e w2 ⟨rfl, hb⟩
 have E4 := Zh (E3.out.below hb)
 clear c1_0 c2_0 E2 E3 hb
 have b3 := E4.out.bx 3 rfl
 have c3_0 := b3.cell 0 rfl
 clear b3
 have b4 := E4.out.bx 4 rfl
 have c4_0 := b4.cell 0 rfl
 clear b4
 go_wp2_with fail
 refine (vbelow_c h1.out lM.out lN.out (gS.sl (E4.out.fc 1 rfl)) (gS.sl (E4.out.fc 3 rfl))).mono ?_
 rintro e w3 ⟨rfl, hb⟩
 have E5 := Zh (E4.out.below hb)
 clear c3_0 c4_0 E4 hb
 have hc1 : (c != 0) = true := bne_iff_ne.2 hcn.out
 have hc2 : (c == 0) = false := beq_eq_false_iff_ne.2 hcn.out
 have b5 := E5.out.bx 4 rfl
 have c5_0 := b5.cell 0 rfl
 have c5_1 := b5.cell 1 rfl
 clear b5
 have b6 := E5.out.bx 2 rfl
 have c6_0 := b6.cell 0 rfl
 clear b6
 go_wp2_with fail
 refine (factor_e (gS.sl (E5.out.fc 3 rfl)) (gS.sl (E5.out.fc 2 rfl)) (gS.sl (E5.out.fc 0 rfl)) HK.out lR.out hc.out hcn.out).mono ?_
 rintro e w4 ⟨⟨ia, ik, rfl⟩, hb⟩
 have E6 := Zh (E5.out.below hb)
 clear c5_0 c5_1 c6_0 E5 hb
 have E7 := Zh ((E6.out.push 24 [.slice ia 0 ik] (w4.heap.size) (by simp)))
 have b7 := E7.out.bx 2 rfl
 have c7_0 := b7.cell 0 rfl
 have f7_0 := b7.frozen 0
 clear b7
 go_wp2
 have E8 : Hid (Env (fun _ => True) w [(w4.heap.size, 24, [.slice ia 0 ik]), (w1.heap.size, 24, [.slice ma (len M) mk, .slice ra (len R) rk]), (w.heap.size + 1 + 1 + 1, 24, [.slice none 0 0]), (w.heap.size + 1 + 1, 24, [.slice ra (len R) rk]), (w.heap.size + 1, 24, [.slice ma (len M) mk]), (w.heap.size, 26, [.slice na (len N) nk, .slice ea (len E) ek])] [.gn (gS (.slice ra (len R) rk) (digs R)), .gn (gS (.slice ma (len M) mk) (digs M)), .gn (gS (.slice ea (len E) ek) (digs E)), .gn (gS (.slice na (len N) nk) (digs N))] _) := Zh ((E7.out.set 2 0 (.slice none 0 0) rfl))
 have hfin := E8.out
 have q8 := (hfin.bx 2 rfl).cell 0 rfl
 exact bodyPost_ret (v := .tuple #[.agg #[.slice none 0 0], .int .i64 c]) (by simp [results, Tryz.results20, go_sem, q8]) rfl ⟨rfl, hfin.bel⟩
theorem Unblind_ok (N E M R : Nat) {na ea ma ra : Option Addr} {nk ek mk rk : Nat} {w : World} (hN : Sl w (.slice na (len N) nk) (digs N)) (hE : Sl w (.slice ea (len E) ek) (digs E)) (hM : Sl w (.slice ma (len M) mk) (digs M)) (hR : Sl w (.slice ra (len R) rk) (digs R)) (HK0 : Key N E) (hv0 : [digs M, digs R].all vld = true) (lM0 : len M ≤ 64) (lR0 : len R ≤ 64) (h10 : decide (M < N) = true) (hc0 : facC R N = 0) {v r : Nat} (hV0 : Nn.NatMath.invV R N = v) (hr0 : M * v % N = r) :
  Calls Tryz.prog 20 #[.agg #[.slice na (len N) nk, .slice ea (len E) ek], .agg #[.slice ma (len M) mk], .agg #[.slice ra (len R) rk]] w fun e w' => ResN r 0 e w' ∧ Below w.heap.size w w' := by
 have E0 := Zh (((((Env.start (fun _ => True) w).argS hN).argS hE).argS hM).argS hR)
 clear hN hE hM hR
 go_enter Tryz.func20, Tryz.ntmps20
 have HK := Zh HK0
 have hv := Zh hv0
 have lM := Zh lM0
 have lR := Zh lR0
 have h1 := Zh h10
 have hc := Zh hc0
 have hV := Zh hV0
 have hr := Zh hr0
 clear HK0 hv0 lM0 lR0 h10 hc0 hV0 hr0
 have HM := Zh (of_decide_eq_true h1.out)
 have HVN : Hid (v < N) := Zh (by rw [← hV.out]; exact Nn.NatMath.invV_lt (by have := HK.out.n15; omega))
 have lN := Zh (Nat.le_trans HK.out.lN (by omega : 32 ≤ 64))
 have E1 := Zh (((((E0.out.push 26 [.slice na (len N) nk, .slice ea (len E) ek] (w.heap.size) (by simp)).push 24 [.slice ma (len M) mk] (w.heap.size + 1) (by simp)).push 24 [.slice ra (len R) rk] (w.heap.size + 1 + 1) (by simp)).push 24 [.slice none 0 0] (w.heap.size + 1 + 1 + 1) (by simp)))
 go_wp2_with fail
 refine (vKey_c HK.out.k (gS.sl (E1.out.fc 3 rfl)) (gS.sl (E1.out.fc 2 rfl))).mono ?_
 rintro e w1 ⟨rfl, hb⟩
 have E2 := Zh (E1.out.below hb)
 clear E0 E1 hb
 have b1 := E2.out.bx 2 rfl
 have c1_0 := b1.cell 0 rfl
 clear b1
 have b2 := E2.out.bx 1 rfl
 have c2_0 := b2.cell 0 rfl
 clear b2
 have E3 := Zh ((E2.out.push 24 [.slice ma (len M) mk, .slice ra (len R) rk] (w1.heap.size) (by simp)))
 go_wp2_with fail
 refine (valid_c [(digs M), (digs R)] (xb := w1.heap.size) (xo := 0) (xk := 2) (gNs.box (E3.out.bx 0 rfl) ⟨(gS.sl (E3.out.fc 1 rfl)), ⟨(gS.sl (E3.out.fc 0 rfl)), trivial⟩⟩) (t := true) hv.out (by simp)).mono ?_
 rintro e w2 ⟨rfl, hb⟩
 have E4 := Zh (E3.out.below hb)
 clear c1_0 c2_0 E2 E3 hb
 have b3 := E4.out.bx 3 rfl
 have c3_0 := b3.cell 0 rfl
 clear b3
 have b4 := E4.out.bx 4 rfl
 have c4_0 := b4.cell 0 rfl
 clear b4
 go_wp2_with fail
 refine (vbelow_c h1.out lM.out lN.out (gS.sl (E4.out.fc 1 rfl)) (gS.sl (E4.out.fc 3 rfl))).mono ?_
 rintro e w3 ⟨rfl, hb⟩
 have E5 := Zh (E4.out.below hb)
 clear c3_0 c4_0 E4 hb
 have b5 := E5.out.bx 4 rfl
 have c5_0 := b5.cell 0 rfl
 have c5_1 := b5.cell 1 rfl
 clear b5
 have b6 := E5.out.bx 2 rfl
 have c6_0 := b6.cell 0 rfl
 clear b6
 go_wp2_with fail
 refine (factor_ok N E R (gS.sl (E5.out.fc 3 rfl)) (gS.sl (E5.out.fc 2 rfl)) (gS.sl (E5.out.fc 0 rfl)) HK.out (facC_0 hc.out).1.1 lR.out (decide_eq_true (facC_0 hc.out).1.2) (decide_eq_true (facC_0 hc.out).2) hV.out).mono ?_
 rintro e w4 ⟨⟨ia, ik, rfl, ih⟩, hb⟩
 have E6 := Zh ((E5.out.below hb).noteS ih.out rfl)
 clear c5_0 c5_1 c6_0 E5 hb ih
 have E7 := Zh ((E6.out.push 24 [.slice ia (len v) ik] (w4.heap.size) (by simp)))
 have b7 := E7.out.bx 4 rfl
 have c7_0 := b7.cell 0 rfl
 clear b7
 have b8 := E7.out.bx 0 rfl
 have c8_0 := b8.cell 0 rfl
 clear b8
 have b9 := E7.out.bx 5 rfl
 have c9_0 := b9.cell 0 rfl
 clear b9
 go_wp2_with fail
 refine (Nn.Mul_m hr.out HM.out HVN.out HK.out.lN (gS.sl (E7.out.fc 2 rfl)) (gS.sl (E7.out.fc 0 rfl)) (gS.sl (E7.out.fc 4 rfl))).mono ?_
 rintro e w5 ⟨⟨oa, ok, rfl, oh⟩, hb⟩
 have E8 := Zh ((E7.out.below hb).noteS oh.out rfl)
 clear c7_0 c8_0 c9_0 E6 E7 hb oh
 have b10 := E8.out.bx 2 rfl
 have c10_0 := b10.cell 0 rfl
 have f10_0 := b10.frozen 0
 clear b10
 go_wp2
 have E9 : Hid (Env (fun _ => True) w [(w4.heap.size, 24, [.slice ia (len v) ik]), (w1.heap.size, 24, [.slice ma (len M) mk, .slice ra (len R) rk]), (w.heap.size + 1 + 1 + 1, 24, [.slice oa (len r) ok]), (w.heap.size + 1 + 1, 24, [.slice ra (len R) rk]), (w.heap.size + 1, 24, [.slice ma (len M) mk]), (w.heap.size, 26, [.slice na (len N) nk, .slice ea (len E) ek])] [.gn (gS (.slice oa (len r) ok) (digs r)), .gn (gS (.slice ia (len v) ik) (digs v)), .gn (gS (.slice ra (len R) rk) (digs R)), .gn (gS (.slice ma (len M) mk) (digs M)), .gn (gS (.slice ea (len E) ek) (digs E)), .gn (gS (.slice na (len N) nk) (digs N))] _) := Zh ((E8.out.set 2 0 (.slice oa (len r) ok) rfl))
 have hfin := E9.out
 have q11 := (hfin.bx 2 rfl).cell 0 rfl
 exact bodyPost_ret (v := .tuple #[.agg #[.slice oa (len r) ok], .int .i64 0]) (by simp [results, Tryz.results20, go_sem, q11]) rfl ⟨⟨oa, ok, rfl, Zh (gS.sl (hfin.out 0 rfl))⟩, hfin.bel⟩
open Go.RowKit
theorem cmp_eq {N M : Nat} {c : Int} {t : Bool} (hc : Nn.NatMath.cmp N M = c) (ht : decide (N = M) = t) : (c == 0) = t := by rw [← hc, ← ht, ← Nn.NatMath.cmp_zero_iff]
theorem hash_5 (N E : Nat) (l : List Nat) {na ea ba : Option Addr} {nk ek bk : Nat} {w : World} (hN : Sl w (.slice na (len N) nk) (digs N)) (hE : Sl w (.slice ea (len E) ek) (digs E)) (HK0 : Key N E) (hm0 : 16384 < l.length) :
  Calls Tryz.prog 13 #[.agg #[.slice na (len N) nk, .slice ea (len E) ek], .slice ba l.length bk] w fun e w' => e = .returned (.tuple #[.agg #[.slice none 0 0], .int .i64 5]) ∧ Below w.heap.size w w' := by
 have E0 := Zh (((Env.start (fun _ => True) w).argS hN).argS hE)
 clear hN hE
 go_enter Tryz.func13, Tryz.ntmps13
 have HK := Zh HK0
 have hm := Zh hm0
 clear HK0 hm0
 have q1 : decide ((16384 : Int) < (l.length : Int)) = true := decide_eq_true (by have := hm.out; omega)
 have q2 : decide (16384 < l.length) = true := decide_eq_true (by have := hm.out; omega)
 have E1 := Zh (((E0.out.push 26 [.slice na (len N) nk, .slice ea (len E) ek] (w.heap.size) (by simp)).push 24 [.slice none 0 0] (w.heap.size + 1) (by simp)))
 go_wp2_with fail
 refine (vKey_c HK.out.k (gS.sl (E1.out.fc 1 rfl)) (gS.sl (E1.out.fc 0 rfl))).mono ?_
 rintro e w1 ⟨rfl, hb⟩
 have E2 := Zh (E1.out.below hb)
 clear E0 E1 hb
 have b1 := E2.out.bx 0 rfl
 have c1_0 := b1.cell 0 rfl
 have f1_0 := b1.frozen 0
 clear b1
 go_wp2
 have E3 : Hid (Env (fun _ => True) w [(w.heap.size + 1, 24, [.slice none 0 0]), (w.heap.size, 26, [.slice na (len N) nk, .slice ea (len E) ek])] [.gn (gS (.slice ea (len E) ek) (digs E)), .gn (gS (.slice na (len N) nk) (digs N))] _) := Zh ((E2.out.set 0 0 (.slice none 0 0) rfl))
 have hfin := E3.out
 have q2 := (hfin.bx 0 rfl).cell 0 rfl
 exact bodyPost_ret (v := .tuple #[.agg #[.slice none 0 0], .int .i64 5]) (by simp [results, Tryz.results13, go_sem, q2]) rfl ⟨rfl, hfin.bel⟩
theorem Verify_1 (lN lE lR : List Nat) (l : List Nat) {na ea ra ba : Option Addr} {nk ek rk bk : Nat} {w : World} (hN : Sl w (.slice na lN.length nk) lN) (hE : Sl w (.slice ea lE.length ek) lE) (hR : Sl w (.slice ra lR.length rk) lR) (hk0 : kV lN lE = false) :
  Calls Tryz.prog 22 #[.agg #[.slice na lN.length nk, .slice ea lE.length ek], .slice ba l.length bk, .agg #[.slice ra lR.length rk]] w fun e w' => e = .returned (.bool false) ∧ Below w.heap.size w w' := by
 have E0 := Zh ((((Env.start (fun _ => True) w).argS hN).argS hE).argS hR)
 clear hN hE hR
 go_enter Tryz.func22, Tryz.ntmps22
 have hk := Zh hk0
 clear hk0
 have E1 := Zh (((E0.out.push 26 [.slice na lN.length nk, .slice ea lE.length ek] (w.heap.size) (by simp)).push 24 [.slice ra lR.length rk] (w.heap.size + 1) (by simp)))
 go_wp2_with fail
 refine (vKey_c hk.out (gS.sl (E1.out.fc 2 rfl)) (gS.sl (E1.out.fc 1 rfl))).mono ?_
 rintro e w1 ⟨rfl, hb⟩
 have E2 := Zh (E1.out.below hb)
 clear E0 E1 hb
 have hfin := Zh E2.out.bel
 go_wp2
 go_ret
 exact ⟨rfl, hfin.out⟩
theorem Verify_2 (N E : Nat) (lR : List Nat) (l : List Nat) {na ea ra ba : Option Addr} {nk ek rk bk : Nat} {w : World} (hN : Sl w (.slice na (len N) nk) (digs N)) (hE : Sl w (.slice ea (len E) ek) (digs E)) (hR : Sl w (.slice ra lR.length rk) lR) (HK0 : Key N E) (hv0 : [lR].all vld = false) :
  Calls Tryz.prog 22 #[.agg #[.slice na (len N) nk, .slice ea (len E) ek], .slice ba l.length bk, .agg #[.slice ra lR.length rk]] w fun e w' => e = .returned (.bool false) ∧ Below w.heap.size w w' := by
 have E0 := Zh ((((Env.start (fun _ => True) w).argS hN).argS hE).argS hR)
 clear hN hE hR
 go_enter Tryz.func22, Tryz.ntmps22
 have HK := Zh HK0
 have hv := Zh hv0
 clear HK0 hv0
 have E1 := Zh (((E0.out.push 26 [.slice na (len N) nk, .slice ea (len E) ek] (w.heap.size) (by simp)).push 24 [.slice ra lR.length rk] (w.heap.size + 1) (by simp)))
 go_wp2_with fail
 refine (vKey_c HK.out.k (gS.sl (E1.out.fc 2 rfl)) (gS.sl (E1.out.fc 1 rfl))).mono ?_
 rintro e w1 ⟨rfl, hb⟩
 have E2 := Zh (E1.out.below hb)
 clear E0 E1 hb
 have b1 := E2.out.bx 0 rfl
 have c1_0 := b1.cell 0 rfl
 clear b1
 have E3 := Zh ((E2.out.push 24 [.slice ra lR.length rk] (w1.heap.size) (by simp)))
 go_wp2_with fail
 refine (valid_c [lR] (xb := w1.heap.size) (xo := 0) (xk := 1) (gNs.box (E3.out.bx 0 rfl) ⟨(gS.sl (E3.out.fc 0 rfl)), trivial⟩) (t := false) hv.out (by simp)).mono ?_
 rintro e w2 ⟨rfl, hb⟩
 have E4 := Zh (E3.out.below hb)
 clear c1_0 E2 E3 hb
 have hfin := Zh E4.out.bel
 go_wp2
 go_ret
 exact ⟨rfl, hfin.out⟩
theorem Verify_3 (N E R : Nat) (l : List Nat) {na ea ra ba : Option Addr} {nk ek rk bk : Nat} {w : World} (hN : Sl w (.slice na (len N) nk) (digs N)) (hE : Sl w (.slice ea (len E) ek) (digs E)) (hR : Sl w (.slice ra (len R) rk) (digs R)) (HK0 : Key N E) (hv0 : [digs R].all vld = true) (lR0 : len R ≤ 64) (h10 : decide (R < N) = false) :
  Calls Tryz.prog 22 #[.agg #[.slice na (len N) nk, .slice ea (len E) ek], .slice ba l.length bk, .agg #[.slice ra (len R) rk]] w fun e w' => e = .returned (.bool false) ∧ Below w.heap.size w w' := by
 have E0 := Zh ((((Env.start (fun _ => True) w).argS hN).argS hE).argS hR)
 clear hN hE hR
 go_enter Tryz.func22, Tryz.ntmps22
 have HK := Zh HK0
 have hv := Zh hv0
 have lR := Zh lR0
 have h1 := Zh h10
 clear HK0 hv0 lR0 h10
 have lN := Zh (Nat.le_trans HK.out.lN (by omega : 32 ≤ 64))
 have E1 := Zh (((E0.out.push 26 [.slice na (len N) nk, .slice ea (len E) ek] (w.heap.size) (by simp)).push 24 [.slice ra (len R) rk] (w.heap.size + 1) (by simp)))
 go_wp2_with fail
 refine (vKey_c HK.out.k (gS.sl (E1.out.fc 2 rfl)) (gS.sl (E1.out.fc 1 rfl))).mono ?_
 rintro e w1 ⟨rfl, hb⟩
 have E2 := Zh (E1.out.below hb)
 clear E0 E1 hb
 have b1 := E2.out.bx 0 rfl
 have c1_0 := b1.cell 0 rfl
 clear b1
 have E3 := Zh ((E2.out.push 24 [.slice ra (len R) rk] (w1.heap.size) (by simp)))
 go_wp2_with fail
 refine (valid_c [(digs R)] (xb := w1.heap.size) (xo := 0) (xk := 1) (gNs.box (E3.out.bx 0 rfl) ⟨(gS.sl (E3.out.fc 0 rfl)), trivial⟩) (t := true) hv.out (by simp)).mono ?_
 rintro e w2 ⟨rfl, hb⟩
 have E4 := Zh (E3.out.below hb)
 clear c1_0 E2 E3 hb
 have b2 := E4.out.bx 1 rfl
 have c2_0 := b2.cell 0 rfl
 clear b2
 have b3 := E4.out.bx 2 rfl
 have c3_0 := b3.cell 0 rfl
 clear b3
 go_wp2_with fail
 refine (vbelow_c h1.out lR.out lN.out (gS.sl (E4.out.fc 0 rfl)) (gS.sl (E4.out.fc 2 rfl))).mono ?_
 rintro e w3 ⟨rfl, hb⟩
 have E5 := Zh (E4.out.below hb)
 clear c2_0 c3_0 E4 hb
 have hfin := Zh E5.out.bel
 go_wp2
 go_ret
 exact ⟨rfl, hfin.out⟩
theorem Verify_5 (N E R : Nat) (l : List Nat) {na ea ra ba : Option Addr} {nk ek rk bk : Nat} {w : World} (hN : Sl w (.slice na (len N) nk) (digs N)) (hE : Sl w (.slice ea (len E) ek) (digs E)) (hR : Sl w (.slice ra (len R) rk) (digs R)) (HK0 : Key N E) (hv0 : [digs R].all vld = true) (lR0 : len R ≤ 64) (h10 : decide (R < N) = true) {p : Nat} (hp0 : R ^ E % N = p) (hm0 : 16384 < l.length) :
  Calls Tryz.prog 22 #[.agg #[.slice na (len N) nk, .slice ea (len E) ek], .slice ba l.length bk, .agg #[.slice ra (len R) rk]] w fun e w' => e = .returned (.bool false) ∧ Below w.heap.size w w' := by
 have E0 := Zh ((((Env.start (fun _ => True) w).argS hN).argS hE).argS hR)
 clear hN hE hR
 go_enter Tryz.func22, Tryz.ntmps22
 have HK := Zh HK0
 have hv := Zh hv0
 have lR := Zh lR0
 have h1 := Zh h10
 have hp := Zh hp0
 have hm := Zh hm0
 clear HK0 hv0 lR0 h10 hp0 hm0
 have lN := Zh (Nat.le_trans HK.out.lN (by omega : 32 ≤ 64))
 have E1 := Zh (((E0.out.push 26 [.slice na (len N) nk, .slice ea (len E) ek] (w.heap.size) (by simp)).push 24 [.slice ra (len R) rk] (w.heap.size + 1) (by simp)))
 go_wp2_with fail
 refine (vKey_c HK.out.k (gS.sl (E1.out.fc 2 rfl)) (gS.sl (E1.out.fc 1 rfl))).mono ?_
 rintro e w1 ⟨rfl, hb⟩
 have E2 := Zh (E1.out.below hb)
 clear E0 E1 hb
 have b1 := E2.out.bx 0 rfl
 have c1_0 := b1.cell 0 rfl
 clear b1
 have E3 := Zh ((E2.out.push 24 [.slice ra (len R) rk] (w1.heap.size) (by simp)))
 go_wp2_with fail
 refine (valid_c [(digs R)] (xb := w1.heap.size) (xo := 0) (xk := 1) (gNs.box (E3.out.bx 0 rfl) ⟨(gS.sl (E3.out.fc 0 rfl)), trivial⟩) (t := true) hv.out (by simp)).mono ?_
 rintro e w2 ⟨rfl, hb⟩
 have E4 := Zh (E3.out.below hb)
 clear c1_0 E2 E3 hb
 have b2 := E4.out.bx 1 rfl
 have c2_0 := b2.cell 0 rfl
 clear b2
 have b3 := E4.out.bx 2 rfl
 have c3_0 := b3.cell 0 rfl
 clear b3
 go_wp2_with fail
 refine (vbelow_c h1.out lR.out lN.out (gS.sl (E4.out.fc 0 rfl)) (gS.sl (E4.out.fc 2 rfl))).mono ?_
 rintro e w3 ⟨rfl, hb⟩
 have E5 := Zh (E4.out.below hb)
 clear c2_0 c3_0 E4 hb
 have b4 := E5.out.bx 2 rfl
 have c4_0 := b4.cell 0 rfl
 have c4_1 := b4.cell 1 rfl
 clear b4
 go_wp2_with fail
 refine (hash_5 N E l (gS.sl (E5.out.fc 2 rfl)) (gS.sl (E5.out.fc 1 rfl)) HK.out hm.out).mono ?_
 rintro e w4 ⟨rfl, hb⟩
 have E6 := Zh (E5.out.below hb)
 clear c4_0 c4_1 E5 hb
 have E7 := Zh ((E6.out.push 24 [.slice none 0 0] (w4.heap.size) (by simp)))
 have b5 := E7.out.bx 2 rfl
 have c5_0 := b5.cell 0 rfl
 clear b5
 have b6 := E7.out.bx 3 rfl
 have c6_1 := b6.cell 1 rfl
 clear b6
 have b7 := E7.out.bx 3 rfl
 have c7_0 := b7.cell 0 rfl
 clear b7
 go_wp2_with fail
 refine (Nn.pow_m hp.out (Nat.le_trans HK.out.lE (by omega)) (of_decide_eq_true h1.out) HK.out.lN (gS.sl (E7.out.fc 0 rfl)) (gS.sl (E7.out.fc 1 rfl)) (gS.sl (E7.out.fc 2 rfl))).mono ?_
 rintro e w5 ⟨⟨pa, pk, rfl, ph⟩, hb⟩
 have E8 := Zh ((E7.out.below hb).noteS ph.out rfl)
 clear c5_0 c6_1 c7_0 E6 E7 hb ph
 have E9 := Zh ((E8.out.push 24 [.slice pa (len p) pk] (w5.heap.size) (by simp)))
 have hfin := Zh E9.out.bel
 go_wp2
 go_ret
 exact ⟨rfl, hfin.out⟩
theorem Verify_ok (N E R : Nat) (l : List Nat) {na ea ra ba : Option Addr} {nk ek rk bk : Nat} {w : World} (hN : Sl w (.slice na (len N) nk) (digs N)) (hE : Sl w (.slice ea (len E) ek) (digs E)) (hR : Sl w (.slice ra (len R) rk) (digs R)) (hM : Fct.at w (fun _ => True) (.bs (.slice ba l.length bk) l)) (HK0 : Key N E) (hv0 : [digs R].all vld = true) (lR0 : len R ≤ 64) (h10 : decide (R < N) = true) {p : Nat} (hp0 : R ^ E % N = p) (ht0 : TabD w) (hm0 : l.length ≤ 16384) {h : Nat} (hh0 : hshN l % N = h) {t : Bool} (hq0 : decide (h = p) = t) :
  Calls Tryz.prog 22 #[.agg #[.slice na (len N) nk, .slice ea (len E) ek], .slice ba l.length bk, .agg #[.slice ra (len R) rk]] w fun e w' => e = .returned (.bool t) ∧ Below w.heap.size w w' := by
 have E0 := Zh (((((Env.start (fun _ => True) w).arg (.bs (.slice ba l.length bk) l) hM).argS hN).argS hE).argS hR)
 clear hN hE hR hM
 go_enter Tryz.func22, Tryz.ntmps22
 have HK := Zh HK0
 have hv := Zh hv0
 have lR := Zh lR0
 have h1 := Zh h10
 have hp := Zh hp0
 have ht := Zh ht0
 have hm := Zh hm0
 have hh := Zh hh0
 have hq := Zh hq0
 clear HK0 hv0 lR0 h10 hp0 ht0 hm0 hh0 hq0
 have HHN : Hid (len h ≤ 64 ∧ len p ≤ 64) := Zh ⟨by rw [← hh.out]; exact Nat.le_trans (Nn.NatMath.len_mono (Nat.le_of_lt (Nat.mod_lt _ (by have := HK.out.n15; omega)))) (Nat.le_trans HK.out.lN (by omega)), by rw [← hp.out]; exact Nat.le_trans (Nn.NatMath.len_mono (Nat.le_of_lt (Nat.mod_lt _ (by have := HK.out.n15; omega)))) (Nat.le_trans HK.out.lN (by omega))⟩
 have lN := Zh (Nat.le_trans HK.out.lN (by omega : 32 ≤ 64))
 have E1 := Zh (((E0.out.push 26 [.slice na (len N) nk, .slice ea (len E) ek] (w.heap.size) (by simp)).push 24 [.slice ra (len R) rk] (w.heap.size + 1) (by simp)))
 go_wp2_with fail
 refine (vKey_c HK.out.k (gS.sl (E1.out.fc 2 rfl)) (gS.sl (E1.out.fc 1 rfl))).mono ?_
 rintro e w1 ⟨rfl, hb⟩
 have E2 := Zh (E1.out.below hb)
 clear E0 E1 hb
 have b1 := E2.out.bx 0 rfl
 have c1_0 := b1.cell 0 rfl
 clear b1
 have E3 := Zh ((E2.out.push 24 [.slice ra (len R) rk] (w1.heap.size) (by simp)))
 go_wp2_with fail
 refine (valid_c [(digs R)] (xb := w1.heap.size) (xo := 0) (xk := 1) (gNs.box (E3.out.bx 0 rfl) ⟨(gS.sl (E3.out.fc 0 rfl)), trivial⟩) (t := true) hv.out (by simp)).mono ?_
 rintro e w2 ⟨rfl, hb⟩
 have E4 := Zh (E3.out.below hb)
 clear c1_0 E2 E3 hb
 have b2 := E4.out.bx 1 rfl
 have c2_0 := b2.cell 0 rfl
 clear b2
 have b3 := E4.out.bx 2 rfl
 have c3_0 := b3.cell 0 rfl
 clear b3
 go_wp2_with fail
 refine (vbelow_c h1.out lR.out lN.out (gS.sl (E4.out.fc 0 rfl)) (gS.sl (E4.out.fc 2 rfl))).mono ?_
 rintro e w3 ⟨rfl, hb⟩
 have E5 := Zh (E4.out.below hb)
 clear c2_0 c3_0 E4 hb
 have b4 := E5.out.bx 2 rfl
 have c4_0 := b4.cell 0 rfl
 have c4_1 := b4.cell 1 rfl
 clear b4
 go_wp2_with fail
 refine (hash_ok N E h l (gS.sl (E5.out.fc 2 rfl)) (gS.sl (E5.out.fc 1 rfl)) (Bs.any (E5.out.fc 3 rfl)) HK.out (ht.out.below E5.out.bel) hm.out hh.out).mono ?_
 rintro e w4 ⟨⟨ha, hk, rfl, hh⟩, hb⟩
 have E6 := Zh ((E5.out.below hb).noteS hh.out rfl)
 clear c4_0 c4_1 E5 hb hh
 have E7 := Zh ((E6.out.push 24 [.slice ha (len h) hk] (w4.heap.size) (by simp)))
 have b5 := E7.out.bx 2 rfl
 have c5_0 := b5.cell 0 rfl
 clear b5
 have b6 := E7.out.bx 3 rfl
 have c6_1 := b6.cell 1 rfl
 clear b6
 have b7 := E7.out.bx 3 rfl
 have c7_0 := b7.cell 0 rfl
 clear b7
 go_wp2_with fail
 refine (Nn.pow_m hp.out (Nat.le_trans HK.out.lE (by omega)) (of_decide_eq_true h1.out) HK.out.lN (gS.sl (E7.out.fc 1 rfl)) (gS.sl (E7.out.fc 2 rfl)) (gS.sl (E7.out.fc 3 rfl))).mono ?_
 rintro e w5 ⟨⟨pa, pk, rfl, ph⟩, hb⟩
 have E8 := Zh ((E7.out.below hb).noteS ph.out rfl)
 clear c5_0 c6_1 c7_0 E6 E7 hb ph
 obtain ⟨c, hc⟩ : ∃ c, Nn.NatMath.cmp h p = c := ⟨_, rfl⟩
 have HC := Zh hc
 have t1 := cmp_eq hc hq.out
 clear hc
 have E9 := Zh ((E8.out.push 24 [.slice pa (len p) pk] (w5.heap.size) (by simp)))
 have b8 := E9.out.bx 1 rfl
 have c8_0 := b8.cell 0 rfl
 clear b8
 have b9 := E9.out.bx 0 rfl
 have c9_0 := b9.cell 0 rfl
 clear b9
 go_wp2_with fail
 refine (Nn.compareF HC.out (gS.sl (E9.out.fc 1 rfl)) (gS.sl (E9.out.fc 0 rfl)) HHN.out.1 HHN.out.2).mono ?_
 rintro e w6 ⟨rfl, hb⟩
 have E10 := Zh (E9.out.below hb)
 clear c8_0 c9_0 E8 E9 hb
 have hfin := Zh E10.out.bel
 go_wp2
 go_ret
 exact ⟨rfl, hfin.out⟩
end Go.Proofs.YtikopkkebdobdaaGreatDoor

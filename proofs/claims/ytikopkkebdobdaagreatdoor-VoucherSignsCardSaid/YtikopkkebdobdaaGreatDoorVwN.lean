/- Picked declarations of VoN, VoA, VoB. -/
import Derived.Test.YtikopkkebdobdaaGreatDoorVwU
import Derived.Test.YtikopkkebdobdaaGreatDoorVwC
import Derived.Test.YtikopkkebdobdaaGreatDoorVw0
import Derived.Deep.DeepCutAuto
import Derived.Deep.CutBlock
import Derived.Test.YtikopkkebdobdaaGreatDoorVwD
namespace Go.Proofs.YtikopkkebdobdaaGreatDoor
set_option maxRecDepth 100000
set_option maxHeartbeats 8000000
open Nn.NatMath (len digs)
open Nn (vld ResN ResZ)
set_option linter.unusedVariables false
set_option linter.unusedSimpArgs false
open Go.RowKit
/-- the slice reads as these words; they lie where D says -/
def gS (v : Value) (l : List Nat) : GF where
 at_ w D := Nn.Sl w v l ∧ ∀ b off n c, v = .slice (some ⟨b, off, none⟩) n c → n ≠ 0 → D b
 turn h hs hD hc := by
  obtain ⟨⟨ao, cap, e, h1, h2, h3, h4, h5⟩, h6⟩ := h
  refine ⟨⟨ao, cap, e, h1, h2, h3, fun hl => ?_, h5⟩, fun b off n c e2 hn => ?_⟩
  ·obtain ⟨b, off, k1, k2, k3⟩ := h4 hl
   have hd := h6 b off _ _ (e.trans (by rw [k1])) (fun hz => hl (List.length_eq_zero_iff.1 hz))
   exact ⟨b, off, k1, Nat.lt_of_lt_of_le k2 hs, fun i hi => (hc b _ k2 hd).trans (k3 i hi)⟩
  ·have hd := h6 b off n c e2 hn
   rw [e] at e2
   simp only [Value.slice.injEq] at e2
   obtain ⟨k1, k2, k3⟩ := e2
   subst k2
   obtain ⟨b', off', q1, q2, _⟩ := h4 (fun hz => hn (by rw [hz]; rfl))
   rw [k1] at q1
   simp only [Option.some.injEq, Addr.mk.injEq, and_true] at q1
   obtain ⟨rfl, _⟩ := q1
   exact hD b q2 hd
theorem RetEqB {a b : Bool} (h : a = b) : Ending.returned (.bool a) = Ending.returned (.bool b) := by rw [h]
theorem len_small {N : Nat} (h : N < 4294967296) : len N ≤ 64 := Nat.le_trans (Nn.NatMath.len_le_iff.2 (show N < Nn.NatMath.Bp 1 from by rw [show Nn.NatMath.Bp 1 = 4294967296 from rfl]; exact h)) (by omega : 1 ≤ 64)
/-- no cell is a word -/
def noU (cs : List Value) : Bool := cs.all fun u => match u with
 | .int .u32 _ => false
 | _ => true
def noUF (F : List Bx) : Bool := F.all fun p => noU p.2.2
section
variable {w W W' : World} {F : List Bx} {G : List Fct} {v : Value} {l : List Nat} {D : Nat → Prop}
theorem gS.sl (h : Fct.at W D (.gn (gS v l))) : Nn.Sl W v l := h.1
theorem gS.of (h : Nn.Sl W v l) : Fct.at W (fun _ => True) (.gn (gS v l)) := ⟨h, fun _ _ _ _ _ _ => trivial⟩
theorem Env.argS (h : Env (fun _ => True) w [] G w) (hn : Nn.Sl w v l) : Env (fun _ => True) w [] (.gn (gS v l) :: G) w := h.note _ ⟨hn, fun _ _ _ _ _ _ => ⟨fun p hp => (by cases hp), .inl trivial⟩⟩
/-- words lie in no box without words -/
theorem Env.noteS (h : Env (fun _ => True) w F G W) (hn : Nn.Sl W v l) (hF : noUF F = true) : Env (fun _ => True) w F (.gn (gS v l) :: G) W := by
 refine h.note _ ⟨hn, fun b off n c e hne => ⟨fun p hp eb => ?_, .inl trivial⟩⟩
 subst eb
 obtain ⟨ao, cap, e2, h1, h2, h3, h4, h5⟩ := hn
 rw [e] at e2
 simp only [Value.slice.injEq] at e2
 obtain ⟨k1, k2, k3⟩ := e2
 obtain ⟨b', off', q1, q2, q3⟩ := h4 (fun hz => hne (by rw [k2, hz]; rfl))
 rw [← k1] at q1
 simp only [Option.some.injEq, Addr.mk.injEq, and_true] at q1
 obtain ⟨q1, rfl⟩ := q1
 subst q1
 have hB := (held_iff.1 h.box).1 p hp
 have hc := q3 0 (by omega)
 rw [cell_of_row W p.1 _ p.2.2.toArray p.2.1 (0, 0) hB.2] at hc
 simp only [Nat.add_zero, List.getElem?_toArray] at hc
 have hm := List.mem_of_getElem? hc
 have h8 := List.all_eq_true.1 hF p hp
 have h9 := List.all_eq_true.1 h8 _ hm
 simp at h9
theorem Sl.num {N : Nat} {a : Option Addr} {k : Nat} (h : Hid (Nn.Nt W (.slice a (len N) k) N)) : Nn.Sl W (.slice a (len N) k) (digs N) := h.out
end
/-! ### lists of numbers -/
/-- the cells of a block from o on are slices that read as these lists -/
def gNs (g o : Nat) (ls : List (List Nat)) : GF where
 at_ w D := ∀ i (h : i < ls.length), (g < w.heap.size ∧ D g) ∧ ∃ (a : Option Addr) (c : Nat), w.cell? ⟨g, o + i, none⟩ = some (.slice a ls[i].length c) ∧ (gS (.slice a ls[i].length c) ls[i]).at_ w D
 turn h hs hD hc := fun i hi => by
  obtain ⟨h1, a, c, e1, e2⟩ := h i hi
  exact ⟨⟨Nat.lt_of_lt_of_le h1.1 hs, hD _ h1.1 h1.2⟩, a, c, (hc _ _ h1.1 h1.2).trans e1, (gS _ _).turn e2 hs hD hc⟩
theorem Env.elS {D0 : Nat → Prop} {w W : World} {F : List Bx} {G : List Fct} (h : Env D0 w F G W) (i : Nat) {g o : Nat} {ls : List (List Nat)} (e : G[i]? = some (.gn (gNs g o ls))) (k : Nat) (hk : k < ls.length) :
  ∃ va vk, Env D0 w F (.ce g (o + k) (.slice va ls[k].length vk) :: .gn (gS (.slice va ls[k].length vk) ls[k]) :: G) W := by
 obtain ⟨h1, a, c, e1, e2⟩ := (h.fc i e : (gNs g o ls).at_ W (DF D0 w.heap.size F)) k hk
 exact ⟨a, c, (h.note (.gn (gS _ _)) e2).note (.ce _ _ _) ⟨h1, e1⟩⟩
/-- slices in a box -/
def SlsAt (W : World) : List Value → List (List Nat) → Prop
 | [], [] => True
 | u :: cs, l :: ls => Nn.Sl W u l ∧ SlsAt W cs ls
 | _, _ => False
theorem SlsAt.get {W : World} : ∀ {cs : List Value} {ls : List (List Nat)}, SlsAt W cs ls → ∀ i (h : i < ls.length), ∃ u, cs[i]? = some u ∧ Nn.Sl W u ls[i]
 | [], [], _, i, h => by simp at h
 | u :: cs, l :: ls, h, 0, _ => ⟨u, rfl, h.1⟩
 | u :: cs, l :: ls, h, i + 1, hi => by
  obtain ⟨v, h1, h2⟩ := SlsAt.get h.2 i (by simpa using hi)
  exact ⟨v, by simpa using h1, h2⟩
 | [], _ :: _, h, _, _ => by cases h
 | _ :: _, [], h, _, _ => by cases h
theorem gNs.box {W : World} {B g : Nat} {T : TypeId} {cs : List Value} {ls : List (List Nat)} (hB : Box B g T cs W) (h : SlsAt W cs ls) : Fct.at W (fun _ => True) (.gn (gNs g 0 ls)) := by
 intro i hi
 obtain ⟨u, h1, h2⟩ := h.get i hi
 have h3 := h2
 obtain ⟨a, c, rfl, _⟩ := h2
 exact ⟨⟨hB.lt, trivial⟩, a, c, hB.cell (0 + i) (by rw [Nat.zero_add]; exact h1), h3, fun _ _ _ _ _ _ => trivial⟩
open Go.RowKit
theorem small_c (x : Nat) {w : World}  (hx : (x : Int) ≤ 9223372036854775807) :
  Calls Tryz.prog 64 #[.int .i64 (x : Nat)] w fun e w' => Nn.RetV x e w' ∧ Below w.heap.size w w' := by
 have E0 := Zh (Env.start (fun _ => True) w)
 go_enter Tryz.func64, Tryz.ntmps64
 go_wp2_with fail
 have E1 := Zh ((E0.out.push 24 [.slice none 0 0] (w.heap.size) (by simp)))
 refine (Nn.ofF x _ hx).mono ?_
 rintro e w1 ⟨⟨ya, yk, rfl, yh⟩, hb⟩
 have E2 := Zh ((E1.out.below hb).noteS yh.out rfl)
 clear E0 E1 hb yh
 have E3 := Zh ((E2.out.push 24 [.slice ya (len x) yk] (w1.heap.size) (by simp)))
 have b1 := E3.out.bx 1 rfl
 have c1_0 := b1.cell 0 rfl
 have f1_0 := b1.frozen 0
 clear b1
 go_wp2
 have E4 : Hid (Env (fun _ => True) w [(w1.heap.size, 24, [.slice ya (len x) yk]), (w.heap.size, 24, [.slice ya (len x) yk])] [.gn (gS (.slice ya (len x) yk) (digs x))] _) := Zh ((E3.out.set 1 0 (.slice ya (len x) yk) rfl))
 have hfin := E4.out
 have q2 := (hfin.bx 1 rfl).cell 0 rfl
 exact bodyPost_ret (v := .agg #[.slice ya (len x) yk]) (by simp [results, Tryz.results64, go_sem, q2]) rfl ⟨⟨ya, yk, rfl, Zh (gS.sl (hfin.out 0 rfl))⟩, hfin.bel⟩
theorem one_c  {w : World}   :
  Calls Tryz.prog 69 #[] w fun e w' => Nn.RetV 1 e w' ∧ Below w.heap.size w w' := by
 have E0 := Zh (Env.start (fun _ => True) w)
 go_enter Tryz.func69, Tryz.ntmps69
 go_wp2_with fail
 have E1 := Zh ((E0.out.push 24 [.slice none 0 0] (w.heap.size) (by simp)))
 refine (small_c 1 (by decide)).mono ?_
 rintro e w1 ⟨⟨ya, yk, rfl, yh⟩, hb⟩
 have E2 := Zh ((E1.out.below hb).noteS yh.out rfl)
 clear E0 E1 hb yh
 have b1 := E2.out.bx 0 rfl
 have c1_0 := b1.cell 0 rfl
 have f1_0 := b1.frozen 0
 clear b1
 go_wp2
 have E3 : Hid (Env (fun _ => True) w [(w.heap.size, 24, [.slice ya (len 1) yk])] [.gn (gS (.slice ya (len 1) yk) (digs 1))] _) := Zh ((E2.out.set 0 0 (.slice ya (len 1) yk) rfl))
 have hfin := E3.out
 have q2 := (hfin.bx 0 rfl).cell 0 rfl
 exact bodyPost_ret (v := .agg #[.slice ya (len 1) yk]) (by simp [results, Tryz.results69, go_sem, q2]) rfl ⟨⟨ya, yk, rfl, Zh (gS.sl (hfin.out 0 rfl))⟩, hfin.bel⟩
theorem of_c (x : Nat) {w : World}  (hx : x < 18446744073709551616) :
  Calls Tryz.prog 25 #[.int .u64 (x : Nat)] w fun e w' => Nn.RetV x e w' ∧ Below w.heap.size w w' := by
 have E0 := Zh (Env.start (fun _ => True) w)
 go_enter Tryz.func25, Tryz.ntmps25
 go_wp2_with fail
 have E1 := Zh ((E0.out.push 24 [.slice none 0 0] (w.heap.size) (by simp)))
 refine (Nn.rOf_c x _ hx).mono ?_
 rintro e w1 ⟨⟨ya, yk, rfl, yh⟩, hb⟩
 have E2 := Zh ((E1.out.below hb).noteS yh.out rfl)
 clear E0 E1 hb yh
 have b1 := E2.out.bx 0 rfl
 have c1_0 := b1.cell 0 rfl
 have f1_0 := b1.frozen 0
 clear b1
 go_wp2
 have E3 : Hid (Env (fun _ => True) w [(w.heap.size, 24, [.slice ya (len x) yk])] [.gn (gS (.slice ya (len x) yk) (digs x))] _) := Zh ((E2.out.set 0 0 (.slice ya (len x) yk) rfl))
 have hfin := E3.out
 have q2 := (hfin.bx 0 rfl).cell 0 rfl
 exact bodyPost_ret (v := .agg #[.slice ya (len x) yk]) (by simp [results, Tryz.results25, go_sem, q2]) rfl ⟨⟨ya, yk, rfl, Zh (gS.sl (hfin.out 0 rfl))⟩, hfin.bel⟩
open Nn.NatMath in
theorem cmp_lt_dec {N M : Nat} {c : Int} {t : Bool} (hc : Nn.NatMath.cmp N M = c) (ht : decide (N < M) = t) : decide (c < 0) = t := by rw [← hc, Nn.NatMath.cmp_lt_iff, ht]
theorem below_w (N M : Nat) {xa ya : Option Addr} {xk yk : Nat} {w : World} (ha : Nn.Sl w (.slice xa (len N) xk) (digs N)) (hb : Nn.Sl w (.slice ya (len M) yk) (digs M)) {t : Bool} (ht0 : decide (N < M) = t) (h1 : len N ≤ 64) (h2 : len M ≤ 64) :
  Calls Tryz.prog 35 #[.agg #[.slice xa (len N) xk], .agg #[.slice ya (len M) yk]] w fun e w' => e = .returned (.bool t) ∧ Below w.heap.size w w' := by
 have E0 := Zh (((Env.start (fun _ => True) w).argS ha).argS hb)
 clear ha hb
 go_enter Tryz.func35, Tryz.ntmps35
 obtain ⟨c, hc⟩ : ∃ c, Nn.NatMath.cmp N M = c := ⟨_, rfl⟩
 have HC := Zh hc
 have t1 := cmp_lt_dec hc ht0
 have H1 := Zh h1
 have H2 := Zh h2
 clear hc ht0 h1 h2
 go_wp2_with fail
 have E1 := Zh (((E0.out.push 24 [.slice xa (len N) xk] (w.heap.size) (by simp)).push 24 [.slice ya (len M) yk] (w.heap.size + 1) (by simp)))
 refine (Nn.compareF HC.out (gS.sl (E1.out.fc 1 rfl)) (gS.sl (E1.out.fc 0 rfl)) H1.out H2.out).mono ?_
 rintro e w1 ⟨rfl, hb⟩
 have E2 := Zh (E1.out.below hb)
 clear E0 E1 hb
 have hfin := Zh E2.out.bel
 go_wp2
 go_ret
 exact ⟨rfl, hfin.out⟩
theorem vbelow_c {a b : Value} {N M : Nat} {t : Bool} {w : World} (ht : decide (N < M) = t) (h1 : len N ≤ 64) (h2 : len M ≤ 64) (ha : Nn.Nt w a N) (hb : Nn.Nt w b M) :
  Calls Tryz.prog 35 #[.agg #[a], .agg #[b]] w fun e w' => e = .returned (.bool t) ∧ Below w.heap.size w w' := by
 obtain ⟨ao, ca, rfl, _⟩ := ha.open
 obtain ⟨bo, cb, rfl, _⟩ := hb.open
 exact below_w N M ha hb ht h1 h2
theorem valid_c (ls : List (List Nat)) {xb xo xk : Nat} {w : World} (hx : Fct.at w (fun _ => True) (.gn (gNs xb xo ls))) {t : Bool} (ht0 : ls.all vld = t) (hm : ls.length ≤ 1000) :
  Calls Tryz.prog 34 #[.slice (some ⟨xb, xo, none⟩) ls.length xk] w fun e w' => e = .returned (.bool t) ∧ Below w.heap.size w w' := by
 have E0 := Zh ((Env.start (fun _ => True) w).arg (.gn (gNs xb xo ls)) hx)
 clear hx
 go_enter Tryz.func34, Tryz.ntmps34
 have ht := Zh ht0
 clear ht0
 go_wp2_with fail
 go_loopg [7] (ls.length) (fun gk s7 wr => ∃ (k : Nat), s7 = .int .i64 (k : Int) ∧ Hid (Env (fun _ => True) w [] [.gn (gNs xb xo ls)] wr) ∧ Hid ((k ≤ ls.length ∧ gk = ls.length - k) ∧ ∀ j (h : j < ls.length), j < k → vld ls[j] = true))
 case atStart => exact ⟨0, rfl, Zh E0.out, Zh ⟨⟨Nat.zero_le _, rfl⟩, fun j _ h => absurd h (Nat.not_lt_zero _)⟩⟩
 case round =>
  clear E0
  obtain ⟨k, rfl, EL, HA⟩ := hrel
  obtain ⟨⟨a1, a2⟩, a3⟩ := HA.out
  have HS := Zh a3
  clear a3 HA
  by_cases hy : k = ls.length
  rotate_left
  ·have hk : k < ls.length := by omega
   have t6 : decide ((k : Int) < (ls.length : Int)) = true := decide_eq_true (by omega)
   have t7 : decide (k < ls.length) = true := decide_eq_true hk
   clear hy
   go_upto_region 3 with (fail)
   obtain ⟨ua, uk, E10⟩ := EL.out.elS 0 rfl (k) hk
   have E1 : Hid (Env (fun _ => True) w [] [.ce xb (xo + k) (.slice ua ls[k].length uk), .gn (gS (.slice ua ls[k].length uk) ls[k]), .gn (gNs xb xo ls)] _) := Zh E10
   clear E10 EL
   have u0 := (E1.out.fc 0 rfl).2
   by_cases hv : vld ls[k] = true
   ·skip
    have HV := Zh hv
    clear hv
    have E2 := Zh ((E1.out.push 24 [.slice ua ls[k].length uk] (wr.heap.size) (by simp)))
    go_wp2_with fail
    refine (Nn.validF HV.out (gS.sl (E2.out.fc 1 rfl))).mono ?_
    rintro e w1 ⟨rfl, hb⟩
    have E3 := Zh (E2.out.below hb)
    clear u0 E1 E2 hb
    have EZ := Zh (((E3.out.drop).forget).forget)
    go_wp2
    go_roundg (ls.length - (k + 1))
    case rel => exact ⟨k + 1, rfl, EZ, Zh ⟨⟨by omega, rfl⟩, fun j h hj => by by_cases e : j = k; (· subst e; exact HV.out); exact HS.out j h (by omega)⟩⟩
    case measure => exact by omega
   ·skip
    have HV := Zh (Bool.eq_false_iff.2 hv)
    have HT : Hid (t = false) := Zh (by rw [← ht.out, Bool.eq_false_iff]; intro h; exact hv (List.all_eq_true.1 h _ (List.getElem_mem hk)))
    clear hv
    have E2 := Zh ((E1.out.push 24 [.slice ua ls[k].length uk] (wr.heap.size) (by simp)))
    go_wp2_with fail
    refine (Nn.validF HV.out (gS.sl (E2.out.fc 1 rfl))).mono ?_
    rintro e w1 ⟨rfl, hb⟩
    have E3 := Zh (E2.out.below hb)
    clear u0 E1 E2 hb
    have hfin := Zh E3.out.bel
    go_wp2
    go_ret
    exact ⟨RetEqB HT.out.symm, hfin.out⟩
  have t6 : decide ((k : Int) < (ls.length : Int)) = false := decide_eq_false (by omega)
  have t7 : decide (k < ls.length) = false := decide_eq_false (by omega)
  have HT : Hid (t = true) := Zh (by rw [← ht.out, List.all_eq_true]; intro l hl; obtain ⟨j, hj, rfl⟩ := List.getElem_of_mem hl; exact HS.out j hj (by omega))
  clear hy
  have hfin := Zh EL.out.bel
  go_wp2
  go_ret
  exact ⟨RetEqB HT.out.symm, hfin.out⟩
theorem Valid_1 (lN lE : List Nat) {xa ya : Option Addr} {xk yk : Nat} {w : World} (ha : Nn.Sl w (.slice xa lN.length xk) lN) (hb : Nn.Sl w (.slice ya lE.length yk) lE) (HV0 : [lN, lE].all vld = false) :
  Calls Tryz.prog 33 #[.agg #[.slice xa lN.length xk, .slice ya lE.length yk]] w fun e w' => e = .returned (.bool false) ∧ Below w.heap.size w w' := by
 have E0 := Zh (((Env.start (fun _ => True) w).argS ha).argS hb)
 clear ha hb
 go_enter Tryz.func33, Tryz.ntmps33
 have HV := Zh HV0
 clear HV0
 go_wp2_with fail
 have E1 := Zh ((E0.out.push 26 [.slice xa lN.length xk, .slice ya lE.length yk] (w.heap.size) (by simp)))
 clear E0
 generalize w.alloc (.cells #[.slice xa lN.length xk, .slice ya lE.length yk] 26) = w1 at *
 have E2 := Zh E1.out.drew
 clear E1
 refine wp_regionU (S := fun w' => w'.cell? ⟨w.heap.size, 0, none⟩ = some (.slice xa lN.length xk) ∧ w'.cell? ⟨w.heap.size, 1, none⟩ = some (.slice ya lE.length yk)) [] (by kernel_rfl) (⟨((E2.out.bx 0 rfl).cell 0 rfl), ((E2.out.bx 0 rfl).cell 1 rfl)⟩) (fun hHeld => ?_)
 generalize w1.drew = w2 at *
 refine uPl [0, 1, 2, 3] ?_
 iterate 4 (refine uTl (v := ?_) ?_ ?_; rotate_left; (focus (intro wS hSw; (try dsimp only at hSw); go_simp; try with_reducible rfl)); try simp only [Act.put, pq0, pq1, pq2])
 refine Pl.z ?_
 refine uRd 4 (fun KK hKK => ?_)
 go_simp
 have E3 := Zh ((E2.out.push 24 [.slice xa lN.length xk, .slice ya lE.length yk] (w2.heap.size) (by simp)))
 (try dsimp only)
 clear hHeld
 refine hKK.out _ _ (⟨((E3.out.bx 1 rfl).cell 0 rfl), ((E3.out.bx 1 rfl).cell 1 rfl)⟩) (fun hHeld => ?_)
 clear hKK KK
 try simp only [Act.put, pq0, pq1, pq2]
 clear E2
 generalize w2.alloc (.cells #[.slice xa lN.length xk, .slice ya lE.length yk] 24) = w3 at *
 refine uRd 5 (fun KK hKK => ?_)
 go_simp
 refine (valid_c [lN, lE] (xb := w2.heap.size) (xo := 0) (xk := 2) (gNs.box (E3.out.bx 0 rfl) ⟨(gS.sl (E3.out.fc 1 rfl)), ⟨(gS.sl (E3.out.fc 0 rfl)), trivial⟩⟩) (t := false) HV.out (by simp)).mono ?_
 rintro e w4 ⟨rfl, hb⟩
 have E4 := Zh (E3.out.below hb)
 clear E3 hb
 (try dsimp only)
 clear hHeld
 refine hKK.out _ _ (⟨((E4.out.bx 1 rfl).cell 0 rfl), ((E4.out.bx 1 rfl).cell 1 rfl)⟩) (fun hHeld => ?_)
 clear hKK KK
 try simp only [Act.put, pq0, pq1, pq2]
 refine uTk (i := 6) (some 9) (v := ?_) ?_ ?_
 rotate_left
 ·(intro wS hSw; (try dsimp only at hSw); go_simp; try with_reducible rfl)
 try simp only [Act.put, pq0, pq1, pq2]
 refine uPs (i := 7) (some 10) ?_
 try simp only [Act.put, pq0, pq1, pq2]
 refine uPs (i := 8) (some 11) ?_
 try simp only [Act.put, pq0, pq1, pq2]
 refine uPs (i := 9) (some 12) ?_
 try simp only [Act.put, pq0, pq1, pq2]
 refine uPs (i := 10) (some 13) ?_
 try simp only [Act.put, pq0, pq1, pq2]
 refine uPl [11, 12] ?_
 iterate 2 (refine uTl (v := ?_) ?_ ?_; rotate_left; (focus (intro wS hSw; (try dsimp only at hSw); go_simp; try with_reducible rfl)); try simp only [Act.put, pq0, pq1, pq2])
 refine Pl.z ?_
 refine uPs (i := 13) (some 16) ?_
 try simp only [Act.put, pq0, pq1, pq2]
 refine uPs (i := 14) (some 17) ?_
 try simp only [Act.put, pq0, pq1, pq2]
 refine uPs (i := 15) (some 18) ?_
 try simp only [Act.put, pq0, pq1, pq2]
 refine uPs (i := 16) (some 19) ?_
 try simp only [Act.put, pq0, pq1, pq2]
 refine uPs (i := 17) (some 20) ?_
 try simp only [Act.put, pq0, pq1, pq2]
 refine uPl [18, 19] ?_
 iterate 2 (refine uTl (v := ?_) ?_ ?_; rotate_left; (focus (intro wS hSw; (try dsimp only at hSw); go_simp; try with_reducible rfl)); try simp only [Act.put, pq0, pq1, pq2])
 refine Pl.z ?_
 refine uPs (i := 20) (some 23) ?_
 try simp only [Act.put, pq0, pq1, pq2]
 refine uPs (i := 21) (some 24) ?_
 try simp only [Act.put, pq0, pq1, pq2]
 refine uPs (i := 22) (some 25) ?_
 try simp only [Act.put, pq0, pq1, pq2]
 refine uPs (i := 23) (some 26) ?_
 try simp only [Act.put, pq0, pq1, pq2]
 refine uPs (i := 24) (some 27) ?_
 try simp only [Act.put, pq0, pq1, pq2]
 refine uPl [25, 26] ?_
 iterate 2 (refine uTl (v := ?_) ?_ ?_; rotate_left; (focus (intro wS hSw; (try dsimp only at hSw); go_simp; try with_reducible rfl)); try simp only [Act.put, pq0, pq1, pq2])
 refine Pl.z ?_
 refine uPs (i := 27) (some 30) ?_
 try simp only [Act.put, pq0, pq1, pq2]
 refine uPs (i := 28) (some 31) ?_
 try simp only [Act.put, pq0, pq1, pq2]
 refine uPs (i := 29) (some 32) ?_
 try simp only [Act.put, pq0, pq1, pq2]
 refine uPs (i := 30) (some 33) ?_
 try simp only [Act.put, pq0, pq1, pq2]
 refine uPs (i := 31) (some 34) ?_
 try simp only [Act.put, pq0, pq1, pq2]
 refine uPl [32, 33] ?_
 iterate 2 (refine uTl (v := ?_) ?_ ?_; rotate_left; (focus (intro wS hSw; (try dsimp only at hSw); go_simp; try with_reducible rfl)); try simp only [Act.put, pq0, pq1, pq2])
 refine Pl.z ?_
 refine uDone (by kernel_rfl) ?_ _
 have hfin := Zh E4.out.bel
 go_wp2
 go_ret
 exact ⟨rfl, hfin.out⟩
theorem Valid_n (N E : Nat) {xa ya : Option Addr} {xk yk : Nat} {w : World} (ha : Nn.Sl w (.slice xa (len N) xk) (digs N)) (hb : Nn.Sl w (.slice ya (len E) yk) (digs E)) (hN0 : len N ≤ 64) (hE0 : len E ≤ 64) (HV0 : [digs N, digs E].all vld = true) {tb t15 t3 tl : Bool} (hbl0 : decide (Nn.NatMath.bl N ≤ 512) = tb) (h150 : decide (N < 15) = t15) (h30 : decide (E < 3) = t3) (hl0 : decide (E < N) = tl) :
  Calls Tryz.prog 33 #[.agg #[.slice xa (len N) xk, .slice ya (len E) yk]] w fun e w' => e = .returned (.bool (tb && (!t15 && (!t3 && tl)))) ∧ Below w.heap.size w w' := by
 have E0 := Zh (((Env.start (fun _ => True) w).argS ha).argS hb)
 clear ha hb
 go_enter Tryz.func33, Tryz.ntmps33
 have hN := Zh hN0
 have hE := Zh hE0
 have HV := Zh HV0
 have hbl := Zh hbl0
 have h15 := Zh h150
 have h3 := Zh h30
 have hl := Zh hl0
 clear hN0 hE0 HV0 hbl0 h150 h30 hl0
 obtain ⟨nb, hb⟩ : ∃ nb, Nn.NatMath.bl N = nb := ⟨_, rfl⟩
 have HB := Zh hb
 have t1n : decide (nb ≤ 512) = tb := by rw [← hb]; exact hbl.out
 have t1 : decide ((nb : Int) ≤ 512) = tb := by rw [← t1n]; exact decide_eq_decide.2 (by omega)
 clear hb
 go_wp2_with fail
 have E1 := Zh ((E0.out.push 26 [.slice xa (len N) xk, .slice ya (len E) yk] (w.heap.size) (by simp)))
 clear E0
 generalize w.alloc (.cells #[.slice xa (len N) xk, .slice ya (len E) yk] 26) = w1 at *
 have E2 := Zh E1.out.drew
 clear E1
 refine wp_regionU (S := fun w' => w'.cell? ⟨w.heap.size, 0, none⟩ = some (.slice xa (len N) xk) ∧ w'.cell? ⟨w.heap.size, 1, none⟩ = some (.slice ya (len E) yk)) [] (by kernel_rfl) (⟨((E2.out.bx 0 rfl).cell 0 rfl), ((E2.out.bx 0 rfl).cell 1 rfl)⟩) (fun hHeld => ?_)
 generalize w1.drew = w2 at *
 refine uPl [0, 1, 2, 3] ?_
 iterate 4 (refine uTl (v := ?_) ?_ ?_; rotate_left; (focus (intro wS hSw; (try dsimp only at hSw); go_simp; try with_reducible rfl)); try simp only [Act.put, pq0, pq1, pq2])
 refine Pl.z ?_
 refine uRd 4 (fun KK hKK => ?_)
 go_simp
 have E3 := Zh ((E2.out.push 24 [.slice xa (len N) xk, .slice ya (len E) yk] (w2.heap.size) (by simp)))
 (try dsimp only)
 clear hHeld
 refine hKK.out _ _ (⟨((E3.out.bx 1 rfl).cell 0 rfl), ((E3.out.bx 1 rfl).cell 1 rfl)⟩) (fun hHeld => ?_)
 clear hKK KK
 try simp only [Act.put, pq0, pq1, pq2]
 clear E2
 generalize w2.alloc (.cells #[.slice xa (len N) xk, .slice ya (len E) yk] 24) = w3 at *
 refine uRd 5 (fun KK hKK => ?_)
 go_simp
 refine (valid_c [(digs N), (digs E)] (xb := w2.heap.size) (xo := 0) (xk := 2) (gNs.box (E3.out.bx 0 rfl) ⟨(gS.sl (E3.out.fc 1 rfl)), ⟨(gS.sl (E3.out.fc 0 rfl)), trivial⟩⟩) (t := true) HV.out (by simp)).mono ?_
 rintro e w4 ⟨rfl, hb⟩
 have E4 := Zh (E3.out.below hb)
 clear E3 hb
 (try dsimp only)
 clear hHeld
 refine hKK.out _ _ (⟨((E4.out.bx 1 rfl).cell 0 rfl), ((E4.out.bx 1 rfl).cell 1 rfl)⟩) (fun hHeld => ?_)
 clear hKK KK
 try simp only [Act.put, pq0, pq1, pq2]
 refine uPl [6, 7, 8] ?_
 iterate 3 (refine uTl (v := ?_) ?_ ?_; rotate_left; (focus (intro wS hSw; (try dsimp only at hSw); go_simp; try with_reducible rfl)); try simp only [Act.put, pq0, pq1, pq2])
 refine Pl.z ?_
 refine uRd 9 (fun KK hKK => ?_)
 go_simp
 refine (Nn.bitsF HB.out hN.out (gS.sl (E4.out.fc 1 rfl))).mono ?_
 rintro e w5 ⟨rfl, hb⟩
 have E5 := Zh (E4.out.below hb)
 clear E4 hb
 (try dsimp only)
 clear hHeld
 refine hKK.out _ _ (⟨((E5.out.bx 1 rfl).cell 0 rfl), ((E5.out.bx 1 rfl).cell 1 rfl)⟩) (fun hHeld => ?_)
 clear hKK KK
 try simp only [Act.put, pq0, pq1, pq2]
 refine uPl [10, 11, 12] ?_
 iterate 3 (refine uTl (v := ?_) ?_ ?_; rotate_left; (focus (intro wS hSw; (try dsimp only at hSw); go_simp; try with_reducible rfl)); try simp only [Act.put, pq0, pq1, pq2])
 refine Pl.z ?_
 cases tb
 ·skip
  refine uPs (i := 13) (some 16) ?_
  try simp only [Act.put, pq0, pq1, pq2]
  refine uPs (i := 14) (some 17) ?_
  try simp only [Act.put, pq0, pq1, pq2]
  refine uPs (i := 15) (some 18) ?_
  try simp only [Act.put, pq0, pq1, pq2]
  refine uPs (i := 16) (some 19) ?_
  try simp only [Act.put, pq0, pq1, pq2]
  refine uPs (i := 17) (some 20) ?_
  try simp only [Act.put, pq0, pq1, pq2]
  refine uPl [18, 19] ?_
  iterate 2 (refine uTl (v := ?_) ?_ ?_; rotate_left; (focus (intro wS hSw; (try dsimp only at hSw); go_simp; try with_reducible rfl)); try simp only [Act.put, pq0, pq1, pq2])
  refine Pl.z ?_
  refine uPs (i := 20) (some 23) ?_
  try simp only [Act.put, pq0, pq1, pq2]
  refine uPs (i := 21) (some 24) ?_
  try simp only [Act.put, pq0, pq1, pq2]
  refine uPs (i := 22) (some 25) ?_
  try simp only [Act.put, pq0, pq1, pq2]
  refine uPs (i := 23) (some 26) ?_
  try simp only [Act.put, pq0, pq1, pq2]
  refine uPs (i := 24) (some 27) ?_
  try simp only [Act.put, pq0, pq1, pq2]
  refine uPl [25, 26] ?_
  iterate 2 (refine uTl (v := ?_) ?_ ?_; rotate_left; (focus (intro wS hSw; (try dsimp only at hSw); go_simp; try with_reducible rfl)); try simp only [Act.put, pq0, pq1, pq2])
  refine Pl.z ?_
  refine uPs (i := 27) (some 30) ?_
  try simp only [Act.put, pq0, pq1, pq2]
  refine uPs (i := 28) (some 31) ?_
  try simp only [Act.put, pq0, pq1, pq2]
  refine uPs (i := 29) (some 32) ?_
  try simp only [Act.put, pq0, pq1, pq2]
  refine uPs (i := 30) (some 33) ?_
  try simp only [Act.put, pq0, pq1, pq2]
  refine uPs (i := 31) (some 34) ?_
  try simp only [Act.put, pq0, pq1, pq2]
  refine uPl [32, 33] ?_
  iterate 2 (refine uTl (v := ?_) ?_ ?_; rotate_left; (focus (intro wS hSw; (try dsimp only at hSw); go_simp; try with_reducible rfl)); try simp only [Act.put, pq0, pq1, pq2])
  refine Pl.z ?_
  refine uDone (by kernel_rfl) ?_ _
  have hfin := Zh E5.out.bel
  go_wp2
  go_ret
  exact ⟨rfl, hfin.out⟩
 ·skip
  refine uPl [13, 14] ?_
  iterate 2 (refine uTl (v := ?_) ?_ ?_; rotate_left; (focus (intro wS hSw; (try dsimp only at hSw); go_simp; try with_reducible rfl)); try simp only [Act.put, pq0, pq1, pq2])
  refine Pl.z ?_
  refine uRd 15 (fun KK hKK => ?_)
  go_simp
  refine (small_c 15 (by decide)).mono ?_
  rintro e w6 ⟨⟨ua, uk, rfl, uh⟩, hb⟩
  have E6 := Zh ((E5.out.below hb).noteS uh.out rfl)
  clear E5 hb uh
  (try dsimp only)
  clear hHeld
  refine hKK.out _ _ (⟨((E6.out.bx 1 rfl).cell 0 rfl), ((E6.out.bx 1 rfl).cell 1 rfl)⟩) (fun hHeld => ?_)
  clear hKK KK
  try simp only [Act.put, pq0, pq1, pq2]
  refine uRd 16 (fun KK hKK => ?_)
  go_simp
  refine (vbelow_c h15.out hN.out (len_small (by decide)) (gS.sl (E6.out.fc 2 rfl)) (gS.sl (E6.out.fc 0 rfl))).mono ?_
  rintro e w7 ⟨rfl, hb⟩
  have E7 := Zh (E6.out.below hb)
  clear E6 hb
  (try dsimp only)
  clear hHeld
  refine hKK.out _ _ (⟨((E7.out.bx 1 rfl).cell 0 rfl), ((E7.out.bx 1 rfl).cell 1 rfl)⟩) (fun hHeld => ?_)
  clear hKK KK
  try simp only [Act.put, pq0, pq1, pq2]
  refine uPl [17, 18, 19] ?_
  iterate 3 (refine uTl (v := ?_) ?_ ?_; rotate_left; (focus (intro wS hSw; (try dsimp only at hSw); go_simp; try with_reducible rfl)); try simp only [Act.put, pq0, pq1, pq2])
  refine Pl.z ?_
  cases t15
  ·skip
   refine uPl [20, 21] ?_
   iterate 2 (refine uTl (v := ?_) ?_ ?_; rotate_left; (focus (intro wS hSw; (try dsimp only at hSw); go_simp; try with_reducible rfl)); try simp only [Act.put, pq0, pq1, pq2])
   refine Pl.z ?_
   refine uRd 22 (fun KK hKK => ?_)
   go_simp
   refine (small_c 3 (by decide)).mono ?_
   rintro e w8 ⟨⟨va, vk, rfl, vh⟩, hb⟩
   have E8 := Zh ((E7.out.below hb).noteS vh.out rfl)
   clear E7 hb vh
   (try dsimp only)
   clear hHeld
   refine hKK.out _ _ (⟨((E8.out.bx 1 rfl).cell 0 rfl), ((E8.out.bx 1 rfl).cell 1 rfl)⟩) (fun hHeld => ?_)
   clear hKK KK
   try simp only [Act.put, pq0, pq1, pq2]
   refine uRd 23 (fun KK hKK => ?_)
   go_simp
   refine (vbelow_c h3.out hE.out (len_small (by decide)) (gS.sl (E8.out.fc 2 rfl)) (gS.sl (E8.out.fc 0 rfl))).mono ?_
   rintro e w9 ⟨rfl, hb⟩
   have E9 := Zh (E8.out.below hb)
   clear E8 hb
   (try dsimp only)
   clear hHeld
   refine hKK.out _ _ (⟨((E9.out.bx 1 rfl).cell 0 rfl), ((E9.out.bx 1 rfl).cell 1 rfl)⟩) (fun hHeld => ?_)
   clear hKK KK
   try simp only [Act.put, pq0, pq1, pq2]
   refine uPl [24, 25, 26] ?_
   iterate 3 (refine uTl (v := ?_) ?_ ?_; rotate_left; (focus (intro wS hSw; (try dsimp only at hSw); go_simp; try with_reducible rfl)); try simp only [Act.put, pq0, pq1, pq2])
   refine Pl.z ?_
   cases t3
   ·skip
    refine uPl [27, 28, 29, 30] ?_
    iterate 4 (refine uTl (v := ?_) ?_ ?_; rotate_left; (focus (intro wS hSw; (try dsimp only at hSw); go_simp; try with_reducible rfl)); try simp only [Act.put, pq0, pq1, pq2])
    refine Pl.z ?_
    refine uRd 31 (fun KK hKK => ?_)
    go_simp
    refine (vbelow_c hl.out hE.out hN.out (gS.sl (E9.out.fc 2 rfl)) (gS.sl (E9.out.fc 3 rfl))).mono ?_
    rintro e w10 ⟨rfl, hb⟩
    have E10 := Zh (E9.out.below hb)
    clear E9 hb
    (try dsimp only)
    clear hHeld
    refine hKK.out _ _ (⟨((E10.out.bx 1 rfl).cell 0 rfl), ((E10.out.bx 1 rfl).cell 1 rfl)⟩) (fun hHeld => ?_)
    clear hKK KK
    try simp only [Act.put, pq0, pq1, pq2]
    refine uPl [32, 33] ?_
    iterate 2 (refine uTl (v := ?_) ?_ ?_; rotate_left; (focus (intro wS hSw; (try dsimp only at hSw); go_simp; try with_reducible rfl)); try simp only [Act.put, pq0, pq1, pq2])
    refine Pl.z ?_
    refine uDone (by kernel_rfl) ?_ _
    have hfin := Zh E10.out.bel
    go_wp2
    go_ret
    exact ⟨rfl, hfin.out⟩
   ·skip
    refine uPs (i := 27) (some 30) ?_
    try simp only [Act.put, pq0, pq1, pq2]
    refine uPs (i := 28) (some 31) ?_
    try simp only [Act.put, pq0, pq1, pq2]
    refine uPs (i := 29) (some 32) ?_
    try simp only [Act.put, pq0, pq1, pq2]
    refine uPs (i := 30) (some 33) ?_
    try simp only [Act.put, pq0, pq1, pq2]
    refine uPs (i := 31) (some 34) ?_
    try simp only [Act.put, pq0, pq1, pq2]
    refine uPl [32, 33] ?_
    iterate 2 (refine uTl (v := ?_) ?_ ?_; rotate_left; (focus (intro wS hSw; (try dsimp only at hSw); go_simp; try with_reducible rfl)); try simp only [Act.put, pq0, pq1, pq2])
    refine Pl.z ?_
    refine uDone (by kernel_rfl) ?_ _
    have hfin := Zh E9.out.bel
    go_wp2
    go_ret
    exact ⟨rfl, hfin.out⟩
  ·skip
   refine uPs (i := 20) (some 23) ?_
   try simp only [Act.put, pq0, pq1, pq2]
   refine uPs (i := 21) (some 24) ?_
   try simp only [Act.put, pq0, pq1, pq2]
   refine uPs (i := 22) (some 25) ?_
   try simp only [Act.put, pq0, pq1, pq2]
   refine uPs (i := 23) (some 26) ?_
   try simp only [Act.put, pq0, pq1, pq2]
   refine uPs (i := 24) (some 27) ?_
   try simp only [Act.put, pq0, pq1, pq2]
   refine uPl [25, 26] ?_
   iterate 2 (refine uTl (v := ?_) ?_ ?_; rotate_left; (focus (intro wS hSw; (try dsimp only at hSw); go_simp; try with_reducible rfl)); try simp only [Act.put, pq0, pq1, pq2])
   refine Pl.z ?_
   refine uPs (i := 27) (some 30) ?_
   try simp only [Act.put, pq0, pq1, pq2]
   refine uPs (i := 28) (some 31) ?_
   try simp only [Act.put, pq0, pq1, pq2]
   refine uPs (i := 29) (some 32) ?_
   try simp only [Act.put, pq0, pq1, pq2]
   refine uPs (i := 30) (some 33) ?_
   try simp only [Act.put, pq0, pq1, pq2]
   refine uPs (i := 31) (some 34) ?_
   try simp only [Act.put, pq0, pq1, pq2]
   refine uPl [32, 33] ?_
   iterate 2 (refine uTl (v := ?_) ?_ ?_; rotate_left; (focus (intro wS hSw; (try dsimp only at hSw); go_simp; try with_reducible rfl)); try simp only [Act.put, pq0, pq1, pq2])
   refine Pl.z ?_
   refine uDone (by kernel_rfl) ?_ _
   have hfin := Zh E7.out.bel
   go_wp2
   go_ret
   exact ⟨rfl, hfin.out⟩
open Go.RowKit
theorem rvalidF {v : Value} {l : List Nat} {t : Bool} {w : World} (ht : vld l = t) (h : Nn.Sl w v l) :
  Calls Tryz.prog 29 #[.agg #[v]] w fun e w' => e = .returned (.bool t) ∧ Below w.heap.size w w' := by subst ht; exact Nn.rValid_c v l w h
theorem rbitsF {v : Value} {N n : Nat} {w : World} (hn : Nn.NatMath.bl N = n) (hl : len N ≤ 64) (h : Nn.Nt w v N) :
  Calls Tryz.prog 49 #[.agg #[v]] w fun e w' => e = .returned (.int .i64 (n : Nat)) ∧ Below w.heap.size w w' := by subst hn; exact Nn.rBits_c v N w h (by omega)
theorem rValid_1 (lN lE : List Nat) {xa ya : Option Addr} {xk yk : Nat} {w : World} (ha : Nn.Sl w (.slice xa lN.length xk) lN) (hb : Nn.Sl w (.slice ya lE.length yk) lE) (hv0 : vld lN = false) :
  Calls Tryz.prog 16 #[.agg #[.slice xa lN.length xk, .slice ya lE.length yk]] w fun e w' => e = .returned (.bool false) ∧ Below w.heap.size w w' := by
 have E0 := Zh (((Env.start (fun _ => True) w).argS ha).argS hb)
 clear ha hb
 go_enter Tryz.func16, Tryz.ntmps16
 have hv := Zh hv0
 clear hv0
 go_wp2_with fail
 have E1 := Zh ((E0.out.push 26 [.slice xa lN.length xk, .slice ya lE.length yk] (w.heap.size) (by simp)))
 clear E0
 generalize w.alloc (.cells #[.slice xa lN.length xk, .slice ya lE.length yk] 26) = w1 at *
 have E2 := Zh E1.out.drew
 clear E1
 refine wp_regionU (S := fun w' => w'.cell? ⟨w.heap.size, 0, none⟩ = some (.slice xa lN.length xk)) [] (by kernel_rfl) (((E2.out.bx 0 rfl).cell 0 rfl)) (fun hHeld => ?_)
 generalize w1.drew = w2 at *
 refine uPl [0, 1] ?_
 iterate 2 (refine uTl (v := ?_) ?_ ?_; rotate_left; (focus (intro wS hSw; (try dsimp only at hSw); go_simp; try with_reducible rfl)); try simp only [Act.put, pq0, pq1, pq2])
 refine Pl.z ?_
 refine uRd 2 (fun KK hKK => ?_)
 go_simp
 refine (rvalidF hv.out (gS.sl (E2.out.fc 1 rfl))).mono ?_
 rintro e w3 ⟨rfl, hb⟩
 have E3 := Zh (E2.out.below hb)
 clear E2 hb
 (try dsimp only)
 clear hHeld
 refine hKK.out _ _ (((E3.out.bx 0 rfl).cell 0 rfl)) (fun hHeld => ?_)
 clear hKK KK
 try simp only [Act.put, pq0, pq1, pq2]
 refine uTk (i := 3) (some 6) (v := ?_) ?_ ?_
 rotate_left
 ·(intro wS hSw; (try dsimp only at hSw); go_simp; try with_reducible rfl)
 try simp only [Act.put, pq0, pq1, pq2]
 refine uPs (i := 4) (some 7) ?_
 try simp only [Act.put, pq0, pq1, pq2]
 refine uPs (i := 5) (some 8) ?_
 try simp only [Act.put, pq0, pq1, pq2]
 refine uPs (i := 6) (some 9) ?_
 try simp only [Act.put, pq0, pq1, pq2]
 refine uPl [7, 8] ?_
 iterate 2 (refine uTl (v := ?_) ?_ ?_; rotate_left; (focus (intro wS hSw; (try dsimp only at hSw); go_simp; try with_reducible rfl)); try simp only [Act.put, pq0, pq1, pq2])
 refine Pl.z ?_
 refine uPs (i := 9) (some 12) ?_
 try simp only [Act.put, pq0, pq1, pq2]
 refine uPs (i := 10) (some 13) ?_
 try simp only [Act.put, pq0, pq1, pq2]
 refine uPs (i := 11) (some 14) ?_
 try simp only [Act.put, pq0, pq1, pq2]
 refine uPs (i := 12) (some 15) ?_
 try simp only [Act.put, pq0, pq1, pq2]
 refine uPs (i := 13) (some 16) ?_
 try simp only [Act.put, pq0, pq1, pq2]
 refine uPl [14, 15] ?_
 iterate 2 (refine uTl (v := ?_) ?_ ?_; rotate_left; (focus (intro wS hSw; (try dsimp only at hSw); go_simp; try with_reducible rfl)); try simp only [Act.put, pq0, pq1, pq2])
 refine Pl.z ?_
 refine uPs (i := 16) (some 19) ?_
 try simp only [Act.put, pq0, pq1, pq2]
 refine uPs (i := 17) (some 20) ?_
 try simp only [Act.put, pq0, pq1, pq2]
 refine uPs (i := 18) (some 21) ?_
 try simp only [Act.put, pq0, pq1, pq2]
 refine uPs (i := 19) (some 22) ?_
 try simp only [Act.put, pq0, pq1, pq2]
 refine uPl [20, 21] ?_
 iterate 2 (refine uTl (v := ?_) ?_ ?_; rotate_left; (focus (intro wS hSw; (try dsimp only at hSw); go_simp; try with_reducible rfl)); try simp only [Act.put, pq0, pq1, pq2])
 refine Pl.z ?_
 refine uPs (i := 22) (some 25) ?_
 try simp only [Act.put, pq0, pq1, pq2]
 refine uPs (i := 23) (some 26) ?_
 try simp only [Act.put, pq0, pq1, pq2]
 refine uPs (i := 24) (some 27) ?_
 try simp only [Act.put, pq0, pq1, pq2]
 refine uPs (i := 25) (some 28) ?_
 try simp only [Act.put, pq0, pq1, pq2]
 refine uPs (i := 26) (some 29) ?_
 try simp only [Act.put, pq0, pq1, pq2]
 refine uPl [27, 28] ?_
 iterate 2 (refine uTl (v := ?_) ?_ ?_; rotate_left; (focus (intro wS hSw; (try dsimp only at hSw); go_simp; try with_reducible rfl)); try simp only [Act.put, pq0, pq1, pq2])
 refine Pl.z ?_
 refine uPs (i := 29) (some 32) ?_
 try simp only [Act.put, pq0, pq1, pq2]
 refine uPs (i := 30) (some 33) ?_
 try simp only [Act.put, pq0, pq1, pq2]
 refine uPs (i := 31) (some 34) ?_
 try simp only [Act.put, pq0, pq1, pq2]
 refine uPs (i := 32) (some 35) ?_
 try simp only [Act.put, pq0, pq1, pq2]
 refine uPs (i := 33) (some 36) ?_
 try simp only [Act.put, pq0, pq1, pq2]
 refine uPl [34, 35] ?_
 iterate 2 (refine uTl (v := ?_) ?_ ?_; rotate_left; (focus (intro wS hSw; (try dsimp only at hSw); go_simp; try with_reducible rfl)); try simp only [Act.put, pq0, pq1, pq2])
 refine Pl.z ?_
 refine uDone (by kernel_rfl) ?_ _
 have hfin := Zh E3.out.bel
 go_wp2
 go_ret
 exact ⟨rfl, hfin.out⟩
theorem rValid_1b (lN lE : List Nat) {xa ya : Option Addr} {xk yk : Nat} {w : World} (ha : Nn.Sl w (.slice xa lN.length xk) lN) (hb : Nn.Sl w (.slice ya lE.length yk) lE) (hu0 : vld lN = true) (hv0 : vld lE = false) :
  Calls Tryz.prog 16 #[.agg #[.slice xa lN.length xk, .slice ya lE.length yk]] w fun e w' => e = .returned (.bool false) ∧ Below w.heap.size w w' := by
 have E0 := Zh (((Env.start (fun _ => True) w).argS ha).argS hb)
 clear ha hb
 go_enter Tryz.func16, Tryz.ntmps16
 have hu := Zh hu0
 have hv := Zh hv0
 clear hu0 hv0
 go_wp2_with fail
 have E1 := Zh ((E0.out.push 26 [.slice xa lN.length xk, .slice ya lE.length yk] (w.heap.size) (by simp)))
 clear E0
 generalize w.alloc (.cells #[.slice xa lN.length xk, .slice ya lE.length yk] 26) = w1 at *
 have E2 := Zh E1.out.drew
 clear E1
 refine wp_regionU (S := fun w' => w'.cell? ⟨w.heap.size, 0, none⟩ = some (.slice xa lN.length xk) ∧ w'.cell? ⟨w.heap.size, 1, none⟩ = some (.slice ya lE.length yk)) [] (by kernel_rfl) (⟨((E2.out.bx 0 rfl).cell 0 rfl), ((E2.out.bx 0 rfl).cell 1 rfl)⟩) (fun hHeld => ?_)
 generalize w1.drew = w2 at *
 refine uPl [0, 1] ?_
 iterate 2 (refine uTl (v := ?_) ?_ ?_; rotate_left; (focus (intro wS hSw; (try dsimp only at hSw); go_simp; try with_reducible rfl)); try simp only [Act.put, pq0, pq1, pq2])
 refine Pl.z ?_
 refine uRd 2 (fun KK hKK => ?_)
 go_simp
 refine (rvalidF hu.out (gS.sl (E2.out.fc 1 rfl))).mono ?_
 rintro e w3 ⟨rfl, hb⟩
 have E3 := Zh (E2.out.below hb)
 clear E2 hb
 (try dsimp only)
 clear hHeld
 refine hKK.out _ _ (⟨((E3.out.bx 0 rfl).cell 0 rfl), ((E3.out.bx 0 rfl).cell 1 rfl)⟩) (fun hHeld => ?_)
 clear hKK KK
 try simp only [Act.put, pq0, pq1, pq2]
 refine uPl [3, 4, 5] ?_
 iterate 3 (refine uTl (v := ?_) ?_ ?_; rotate_left; (focus (intro wS hSw; (try dsimp only at hSw); go_simp; try with_reducible rfl)); try simp only [Act.put, pq0, pq1, pq2])
 refine Pl.z ?_
 refine uRd 6 (fun KK hKK => ?_)
 go_simp
 refine (rvalidF hv.out (gS.sl (E3.out.fc 0 rfl))).mono ?_
 rintro e w4 ⟨rfl, hb⟩
 have E4 := Zh (E3.out.below hb)
 clear E3 hb
 (try dsimp only)
 clear hHeld
 refine hKK.out _ _ (⟨((E4.out.bx 0 rfl).cell 0 rfl), ((E4.out.bx 0 rfl).cell 1 rfl)⟩) (fun hHeld => ?_)
 clear hKK KK
 try simp only [Act.put, pq0, pq1, pq2]
 refine uPl [7, 8] ?_
 iterate 2 (refine uTl (v := ?_) ?_ ?_; rotate_left; (focus (intro wS hSw; (try dsimp only at hSw); go_simp; try with_reducible rfl)); try simp only [Act.put, pq0, pq1, pq2])
 refine Pl.z ?_
 refine uPs (i := 9) (some 12) ?_
 try simp only [Act.put, pq0, pq1, pq2]
 refine uPs (i := 10) (some 13) ?_
 try simp only [Act.put, pq0, pq1, pq2]
 refine uPs (i := 11) (some 14) ?_
 try simp only [Act.put, pq0, pq1, pq2]
 refine uPs (i := 12) (some 15) ?_
 try simp only [Act.put, pq0, pq1, pq2]
 refine uPs (i := 13) (some 16) ?_
 try simp only [Act.put, pq0, pq1, pq2]
 refine uPl [14, 15] ?_
 iterate 2 (refine uTl (v := ?_) ?_ ?_; rotate_left; (focus (intro wS hSw; (try dsimp only at hSw); go_simp; try with_reducible rfl)); try simp only [Act.put, pq0, pq1, pq2])
 refine Pl.z ?_
 refine uPs (i := 16) (some 19) ?_
 try simp only [Act.put, pq0, pq1, pq2]
 refine uPs (i := 17) (some 20) ?_
 try simp only [Act.put, pq0, pq1, pq2]
 refine uPs (i := 18) (some 21) ?_
 try simp only [Act.put, pq0, pq1, pq2]
 refine uPs (i := 19) (some 22) ?_
 try simp only [Act.put, pq0, pq1, pq2]
 refine uPl [20, 21] ?_
 iterate 2 (refine uTl (v := ?_) ?_ ?_; rotate_left; (focus (intro wS hSw; (try dsimp only at hSw); go_simp; try with_reducible rfl)); try simp only [Act.put, pq0, pq1, pq2])
 refine Pl.z ?_
 refine uPs (i := 22) (some 25) ?_
 try simp only [Act.put, pq0, pq1, pq2]
 refine uPs (i := 23) (some 26) ?_
 try simp only [Act.put, pq0, pq1, pq2]
 refine uPs (i := 24) (some 27) ?_
 try simp only [Act.put, pq0, pq1, pq2]
 refine uPs (i := 25) (some 28) ?_
 try simp only [Act.put, pq0, pq1, pq2]
 refine uPs (i := 26) (some 29) ?_
 try simp only [Act.put, pq0, pq1, pq2]
 refine uPl [27, 28] ?_
 iterate 2 (refine uTl (v := ?_) ?_ ?_; rotate_left; (focus (intro wS hSw; (try dsimp only at hSw); go_simp; try with_reducible rfl)); try simp only [Act.put, pq0, pq1, pq2])
 refine Pl.z ?_
 refine uPs (i := 29) (some 32) ?_
 try simp only [Act.put, pq0, pq1, pq2]
 refine uPs (i := 30) (some 33) ?_
 try simp only [Act.put, pq0, pq1, pq2]
 refine uPs (i := 31) (some 34) ?_
 try simp only [Act.put, pq0, pq1, pq2]
 refine uPs (i := 32) (some 35) ?_
 try simp only [Act.put, pq0, pq1, pq2]
 refine uPs (i := 33) (some 36) ?_
 try simp only [Act.put, pq0, pq1, pq2]
 refine uPl [34, 35] ?_
 iterate 2 (refine uTl (v := ?_) ?_ ?_; rotate_left; (focus (intro wS hSw; (try dsimp only at hSw); go_simp; try with_reducible rfl)); try simp only [Act.put, pq0, pq1, pq2])
 refine Pl.z ?_
 refine uDone (by kernel_rfl) ?_ _
 have hfin := Zh E4.out.bel
 go_wp2
 go_ret
 exact ⟨rfl, hfin.out⟩
theorem rValid_n (N E : Nat) {xa ya : Option Addr} {xk yk : Nat} {w : World} (ha : Nn.Sl w (.slice xa (len N) xk) (digs N)) (hb : Nn.Sl w (.slice ya (len E) yk) (digs E)) (hN0 : len N ≤ 64) (hv0 : vld (digs N) = true) (hu0 : vld (digs E) = true) {tb t15 t3 tl : Bool} (hbl0 : decide (Nn.NatMath.bl N ≤ 512) = tb) (h150 : decide (N < 15) = t15) (h30 : decide (E < 3) = t3) (hl0 : decide (E < N) = tl) :
  Calls Tryz.prog 16 #[.agg #[.slice xa (len N) xk, .slice ya (len E) yk]] w fun e w' => e = .returned (.bool (!t15 && (tb && (!t3 && tl)))) ∧ Below w.heap.size w w' := by
 have E0 := Zh (((Env.start (fun _ => True) w).argS ha).argS hb)
 clear ha hb
 go_enter Tryz.func16, Tryz.ntmps16
 have hN := Zh hN0
 have hv := Zh hv0
 have hu := Zh hu0
 have hbl := Zh hbl0
 have h15 := Zh h150
 have h3 := Zh h30
 have hl := Zh hl0
 clear hN0 hv0 hu0 hbl0 h150 h30 hl0
 obtain ⟨nb, hb⟩ : ∃ nb, Nn.NatMath.bl N = nb := ⟨_, rfl⟩
 have HB := Zh hb
 have t1n : decide (nb ≤ 512) = tb := by rw [← hb]; exact hbl.out
 have t1 : decide ((nb : Int) ≤ 512) = tb := by rw [← t1n]; exact decide_eq_decide.2 (by omega)
 clear hb
 go_wp2_with fail
 have E1 := Zh ((E0.out.push 26 [.slice xa (len N) xk, .slice ya (len E) yk] (w.heap.size) (by simp)))
 clear E0
 generalize w.alloc (.cells #[.slice xa (len N) xk, .slice ya (len E) yk] 26) = w1 at *
 have E2 := Zh E1.out.drew
 clear E1
 refine wp_regionU (S := fun w' => w'.cell? ⟨w.heap.size, 0, none⟩ = some (.slice xa (len N) xk) ∧ w'.cell? ⟨w.heap.size, 1, none⟩ = some (.slice ya (len E) yk)) [] (by kernel_rfl) (⟨((E2.out.bx 0 rfl).cell 0 rfl), ((E2.out.bx 0 rfl).cell 1 rfl)⟩) (fun hHeld => ?_)
 generalize w1.drew = w2 at *
 refine uPl [0, 1] ?_
 iterate 2 (refine uTl (v := ?_) ?_ ?_; rotate_left; (focus (intro wS hSw; (try dsimp only at hSw); go_simp; try with_reducible rfl)); try simp only [Act.put, pq0, pq1, pq2])
 refine Pl.z ?_
 refine uRd 2 (fun KK hKK => ?_)
 go_simp
 refine (rvalidF hv.out (gS.sl (E2.out.fc 1 rfl))).mono ?_
 rintro e w3 ⟨rfl, hb⟩
 have E3 := Zh (E2.out.below hb)
 clear E2 hb
 (try dsimp only)
 clear hHeld
 refine hKK.out _ _ (⟨((E3.out.bx 0 rfl).cell 0 rfl), ((E3.out.bx 0 rfl).cell 1 rfl)⟩) (fun hHeld => ?_)
 clear hKK KK
 try simp only [Act.put, pq0, pq1, pq2]
 refine uPl [3, 4, 5] ?_
 iterate 3 (refine uTl (v := ?_) ?_ ?_; rotate_left; (focus (intro wS hSw; (try dsimp only at hSw); go_simp; try with_reducible rfl)); try simp only [Act.put, pq0, pq1, pq2])
 refine Pl.z ?_
 refine uRd 6 (fun KK hKK => ?_)
 go_simp
 refine (rvalidF hu.out (gS.sl (E3.out.fc 0 rfl))).mono ?_
 rintro e w4 ⟨rfl, hb⟩
 have E4 := Zh (E3.out.below hb)
 clear E3 hb
 (try dsimp only)
 clear hHeld
 refine hKK.out _ _ (⟨((E4.out.bx 0 rfl).cell 0 rfl), ((E4.out.bx 0 rfl).cell 1 rfl)⟩) (fun hHeld => ?_)
 clear hKK KK
 try simp only [Act.put, pq0, pq1, pq2]
 refine uPl [7, 8, 9, 10] ?_
 iterate 4 (refine uTl (v := ?_) ?_ ?_; rotate_left; (focus (intro wS hSw; (try dsimp only at hSw); go_simp; try with_reducible rfl)); try simp only [Act.put, pq0, pq1, pq2])
 refine Pl.z ?_
 refine uRd 11 (fun KK hKK => ?_)
 go_simp
 refine (Nn.rOf_c 15 _ (by decide)).mono ?_
 rintro e w5 ⟨⟨ua, uk, rfl, uh⟩, hb⟩
 have E5 := Zh ((E4.out.below hb).noteS uh.out rfl)
 clear E4 hb uh
 (try dsimp only)
 clear hHeld
 refine hKK.out _ _ (⟨((E5.out.bx 0 rfl).cell 0 rfl), ((E5.out.bx 0 rfl).cell 1 rfl)⟩) (fun hHeld => ?_)
 clear hKK KK
 try simp only [Act.put, pq0, pq1, pq2]
 refine uRd 12 (fun KK hKK => ?_)
 go_simp
 refine (Nn.rLess_c h15.out (gS.sl (E5.out.fc 2 rfl)) (gS.sl (E5.out.fc 0 rfl))).mono ?_
 rintro e w6 ⟨rfl, hb⟩
 have E6 := Zh (E5.out.below hb)
 clear E5 hb
 (try dsimp only)
 clear hHeld
 refine hKK.out _ _ (⟨((E6.out.bx 0 rfl).cell 0 rfl), ((E6.out.bx 0 rfl).cell 1 rfl)⟩) (fun hHeld => ?_)
 clear hKK KK
 try simp only [Act.put, pq0, pq1, pq2]
 refine uPl [13, 14, 15] ?_
 iterate 3 (refine uTl (v := ?_) ?_ ?_; rotate_left; (focus (intro wS hSw; (try dsimp only at hSw); go_simp; try with_reducible rfl)); try simp only [Act.put, pq0, pq1, pq2])
 refine Pl.z ?_
 cases t15
 ·skip
  refine uPl [16, 17] ?_
  iterate 2 (refine uTl (v := ?_) ?_ ?_; rotate_left; (focus (intro wS hSw; (try dsimp only at hSw); go_simp; try with_reducible rfl)); try simp only [Act.put, pq0, pq1, pq2])
  refine Pl.z ?_
  refine uRd 18 (fun KK hKK => ?_)
  go_simp
  refine (rbitsF HB.out hN.out (gS.sl (E6.out.fc 2 rfl))).mono ?_
  rintro e w7 ⟨rfl, hb⟩
  have E7 := Zh (E6.out.below hb)
  clear E6 hb
  (try dsimp only)
  clear hHeld
  refine hKK.out _ _ (⟨((E7.out.bx 0 rfl).cell 0 rfl), ((E7.out.bx 0 rfl).cell 1 rfl)⟩) (fun hHeld => ?_)
  clear hKK KK
  try simp only [Act.put, pq0, pq1, pq2]
  refine uPl [19, 20, 21] ?_
  iterate 3 (refine uTl (v := ?_) ?_ ?_; rotate_left; (focus (intro wS hSw; (try dsimp only at hSw); go_simp; try with_reducible rfl)); try simp only [Act.put, pq0, pq1, pq2])
  refine Pl.z ?_
  cases tb
  ·skip
   refine uPs (i := 22) (some 25) ?_
   try simp only [Act.put, pq0, pq1, pq2]
   refine uPs (i := 23) (some 26) ?_
   try simp only [Act.put, pq0, pq1, pq2]
   refine uPs (i := 24) (some 27) ?_
   try simp only [Act.put, pq0, pq1, pq2]
   refine uPs (i := 25) (some 28) ?_
   try simp only [Act.put, pq0, pq1, pq2]
   refine uPs (i := 26) (some 29) ?_
   try simp only [Act.put, pq0, pq1, pq2]
   refine uPl [27, 28] ?_
   iterate 2 (refine uTl (v := ?_) ?_ ?_; rotate_left; (focus (intro wS hSw; (try dsimp only at hSw); go_simp; try with_reducible rfl)); try simp only [Act.put, pq0, pq1, pq2])
   refine Pl.z ?_
   refine uPs (i := 29) (some 32) ?_
   try simp only [Act.put, pq0, pq1, pq2]
   refine uPs (i := 30) (some 33) ?_
   try simp only [Act.put, pq0, pq1, pq2]
   refine uPs (i := 31) (some 34) ?_
   try simp only [Act.put, pq0, pq1, pq2]
   refine uPs (i := 32) (some 35) ?_
   try simp only [Act.put, pq0, pq1, pq2]
   refine uPs (i := 33) (some 36) ?_
   try simp only [Act.put, pq0, pq1, pq2]
   refine uPl [34, 35] ?_
   iterate 2 (refine uTl (v := ?_) ?_ ?_; rotate_left; (focus (intro wS hSw; (try dsimp only at hSw); go_simp; try with_reducible rfl)); try simp only [Act.put, pq0, pq1, pq2])
   refine Pl.z ?_
   refine uDone (by kernel_rfl) ?_ _
   have hfin := Zh E7.out.bel
   go_wp2
   go_ret
   exact ⟨rfl, hfin.out⟩
  ·skip
   refine uPl [22, 23] ?_
   iterate 2 (refine uTl (v := ?_) ?_ ?_; rotate_left; (focus (intro wS hSw; (try dsimp only at hSw); go_simp; try with_reducible rfl)); try simp only [Act.put, pq0, pq1, pq2])
   refine Pl.z ?_
   refine uRd 24 (fun KK hKK => ?_)
   go_simp
   refine (Nn.rOf_c 3 _ (by decide)).mono ?_
   rintro e w8 ⟨⟨va, vk, rfl, vh⟩, hb⟩
   have E8 := Zh ((E7.out.below hb).noteS vh.out rfl)
   clear E7 hb vh
   (try dsimp only)
   clear hHeld
   refine hKK.out _ _ (⟨((E8.out.bx 0 rfl).cell 0 rfl), ((E8.out.bx 0 rfl).cell 1 rfl)⟩) (fun hHeld => ?_)
   clear hKK KK
   try simp only [Act.put, pq0, pq1, pq2]
   refine uRd 25 (fun KK hKK => ?_)
   go_simp
   refine (Nn.rLess_c h3.out (gS.sl (E8.out.fc 2 rfl)) (gS.sl (E8.out.fc 0 rfl))).mono ?_
   rintro e w9 ⟨rfl, hb⟩
   have E9 := Zh (E8.out.below hb)
   clear E8 hb
   (try dsimp only)
   clear hHeld
   refine hKK.out _ _ (⟨((E9.out.bx 0 rfl).cell 0 rfl), ((E9.out.bx 0 rfl).cell 1 rfl)⟩) (fun hHeld => ?_)
   clear hKK KK
   try simp only [Act.put, pq0, pq1, pq2]
   refine uPl [26, 27, 28] ?_
   iterate 3 (refine uTl (v := ?_) ?_ ?_; rotate_left; (focus (intro wS hSw; (try dsimp only at hSw); go_simp; try with_reducible rfl)); try simp only [Act.put, pq0, pq1, pq2])
   refine Pl.z ?_
   cases t3
   ·skip
    refine uPl [29, 30, 31, 32] ?_
    iterate 4 (refine uTl (v := ?_) ?_ ?_; rotate_left; (focus (intro wS hSw; (try dsimp only at hSw); go_simp; try with_reducible rfl)); try simp only [Act.put, pq0, pq1, pq2])
    refine Pl.z ?_
    refine uRd 33 (fun KK hKK => ?_)
    go_simp
    refine (Nn.rLess_c hl.out (gS.sl (E9.out.fc 2 rfl)) (gS.sl (E9.out.fc 3 rfl))).mono ?_
    rintro e w10 ⟨rfl, hb⟩
    have E10 := Zh (E9.out.below hb)
    clear E9 hb
    (try dsimp only)
    clear hHeld
    refine hKK.out _ _ (⟨((E10.out.bx 0 rfl).cell 0 rfl), ((E10.out.bx 0 rfl).cell 1 rfl)⟩) (fun hHeld => ?_)
    clear hKK KK
    try simp only [Act.put, pq0, pq1, pq2]
    refine uPl [34, 35] ?_
    iterate 2 (refine uTl (v := ?_) ?_ ?_; rotate_left; (focus (intro wS hSw; (try dsimp only at hSw); go_simp; try with_reducible rfl)); try simp only [Act.put, pq0, pq1, pq2])
    refine Pl.z ?_
    refine uDone (by kernel_rfl) ?_ _
    have hfin := Zh E10.out.bel
    go_wp2
    go_ret
    exact ⟨rfl, hfin.out⟩
   ·skip
    refine uPs (i := 29) (some 32) ?_
    try simp only [Act.put, pq0, pq1, pq2]
    refine uPs (i := 30) (some 33) ?_
    try simp only [Act.put, pq0, pq1, pq2]
    refine uPs (i := 31) (some 34) ?_
    try simp only [Act.put, pq0, pq1, pq2]
    refine uPs (i := 32) (some 35) ?_
    try simp only [Act.put, pq0, pq1, pq2]
    refine uPs (i := 33) (some 36) ?_
    try simp only [Act.put, pq0, pq1, pq2]
    refine uPl [34, 35] ?_
    iterate 2 (refine uTl (v := ?_) ?_ ?_; rotate_left; (focus (intro wS hSw; (try dsimp only at hSw); go_simp; try with_reducible rfl)); try simp only [Act.put, pq0, pq1, pq2])
    refine Pl.z ?_
    refine uDone (by kernel_rfl) ?_ _
    have hfin := Zh E9.out.bel
    go_wp2
    go_ret
    exact ⟨rfl, hfin.out⟩
 ·skip
  refine uPs (i := 16) (some 19) ?_
  try simp only [Act.put, pq0, pq1, pq2]
  refine uPs (i := 17) (some 20) ?_
  try simp only [Act.put, pq0, pq1, pq2]
  refine uPs (i := 18) (some 21) ?_
  try simp only [Act.put, pq0, pq1, pq2]
  refine uPs (i := 19) (some 22) ?_
  try simp only [Act.put, pq0, pq1, pq2]
  refine uPl [20, 21] ?_
  iterate 2 (refine uTl (v := ?_) ?_ ?_; rotate_left; (focus (intro wS hSw; (try dsimp only at hSw); go_simp; try with_reducible rfl)); try simp only [Act.put, pq0, pq1, pq2])
  refine Pl.z ?_
  refine uPs (i := 22) (some 25) ?_
  try simp only [Act.put, pq0, pq1, pq2]
  refine uPs (i := 23) (some 26) ?_
  try simp only [Act.put, pq0, pq1, pq2]
  refine uPs (i := 24) (some 27) ?_
  try simp only [Act.put, pq0, pq1, pq2]
  refine uPs (i := 25) (some 28) ?_
  try simp only [Act.put, pq0, pq1, pq2]
  refine uPs (i := 26) (some 29) ?_
  try simp only [Act.put, pq0, pq1, pq2]
  refine uPl [27, 28] ?_
  iterate 2 (refine uTl (v := ?_) ?_ ?_; rotate_left; (focus (intro wS hSw; (try dsimp only at hSw); go_simp; try with_reducible rfl)); try simp only [Act.put, pq0, pq1, pq2])
  refine Pl.z ?_
  refine uPs (i := 29) (some 32) ?_
  try simp only [Act.put, pq0, pq1, pq2]
  refine uPs (i := 30) (some 33) ?_
  try simp only [Act.put, pq0, pq1, pq2]
  refine uPs (i := 31) (some 34) ?_
  try simp only [Act.put, pq0, pq1, pq2]
  refine uPs (i := 32) (some 35) ?_
  try simp only [Act.put, pq0, pq1, pq2]
  refine uPs (i := 33) (some 36) ?_
  try simp only [Act.put, pq0, pq1, pq2]
  refine uPl [34, 35] ?_
  iterate 2 (refine uTl (v := ?_) ?_ ?_; rotate_left; (focus (intro wS hSw; (try dsimp only at hSw); go_simp; try with_reducible rfl)); try simp only [Act.put, pq0, pq1, pq2])
  refine Pl.z ?_
  refine uDone (by kernel_rfl) ?_ _
  have hfin := Zh E6.out.bel
  go_wp2
  go_ret
  exact ⟨rfl, hfin.out⟩
theorem vresidue_c (K X : Nat) {pa qa xa : Option Addr} {pk qn qk xk : Nat} {w : World} (ha : Nn.Sl w (.slice pa (len K) pk) (digs K)) (hx : Nn.Sl w (.slice xa (len X) xk) (digs X)) {t : Bool} (ht0 : decide (X < K) = t) :
  Calls Tryz.prog 39 #[.agg #[.slice pa (len K) pk, .slice qa qn qk], .agg #[.slice xa (len X) xk]] w fun e w' => e = .returned (.bool t) ∧ Below w.heap.size w w' := by
 have E0 := Zh (((Env.start (fun _ => True) w).argS ha).argS hx)
 clear ha hx
 go_enter Tryz.func39, Tryz.ntmps39
 have ht := Zh ht0
 clear ht0
 have E1 := Zh (((E0.out.push 26 [.slice pa (len K) pk, .slice qa qn qk] (w.heap.size) (by simp)).push 24 [.slice xa (len X) xk] (w.heap.size + 1) (by simp)))
 go_wp2_with fail
 refine (Nn.rLess_c ht.out (gS.sl (E1.out.fc 0 rfl)) (gS.sl (E1.out.fc 1 rfl))).mono ?_
 rintro e w1 ⟨rfl, hb⟩
 have E2 := Zh (E1.out.below hb)
 clear E0 E1 hb
 have hfin := Zh E2.out.bel
 go_wp2
 go_ret
 exact ⟨rfl, hfin.out⟩
end Go.Proofs.YtikopkkebdobdaaGreatDoor

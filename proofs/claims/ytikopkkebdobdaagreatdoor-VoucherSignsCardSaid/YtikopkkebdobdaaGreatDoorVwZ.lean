/- Picked declarations of VoFr, VsFr. -/
import Derived.Test.YtikopkkebdobdaaGreatDoorRows
import Derived.WalkKit
import Derived.ProofKit
import Derived.LaidMore
import Derived.OpenShut
import Derived.ShutString
import Derived.ChangeOld
import Derived.Below
import Derived.Stop.Joined
import Derived.Carry
import Derived.Deep.Slices
import Derived.Deep.Fields
import Derived.Test.YtikopkkebdobdaaGreatDoorVwJ
namespace Go.Proofs.YtikopkkebdobdaaGreatDoor
set_option linter.unusedVariables false
set_option linter.unusedSimpArgs false
open Go.ChangeShapes Go.WideShapes Go.ChangeAt Go.RowKit Go.Deep
set_option maxRecDepth 100000
theorem own : ownKnob Tryz.prog.godebug = none := by kernel_rfl
theorem laidOut : laidOutB Tryz.prog = true := by kernel_rfl
theorem gTab : Tryz.prog.globalNamed "math/bits.deBruijn64tab" = some 4 := by kernel_rfl
theorem gBas : Tryz.prog.globalNamed "specie/prime.bases" = some 1 := by kernel_rfl
theorem tTab : (Tryz.prog.globals[4]?).map (·.type) = some 137 := by kernel_rfl
theorem tBas : (Tryz.prog.globals[1]?).map (·.type) = some 124 := by kernel_rfl
section
variable {H : Type} {enc : TypeId × Value → H} {W : World}
theorem cells_of_tab {sp : Nat → Bool} {held : Bool} {fuel : Nat} {t e : TypeId} {n : Nat} {k : IntKind} {cs : List Value} {l : List Nat} {q : List MemPlace}
  (ht : Tryz.prog.underlying t = some (.array n e)) (he : Tryz.prog.underlying e = some (.int k)) (c1 : Tryz.prog.cellsOf e = 1)
  (h : DataW.trod enc Tryz.prog W 0 sp held fuel t cs = some (.agg (l.map fun x => .lit (.int k (x : Nat))), q)) : ∀ i, i < n → cs[i]? = some (.int k (l.getD i 0 : Nat)) := by
 obtain ⟨xs, m, rfl, hx, hlen, hn, hel⟩ := DataW.trod_array ht h
 simp only [Prod.mk.injEq, DataW.agg.injEq] at hx
 intro i hi
 have h1 := hel i hi
 rw [c1, Nat.mul_one, List.getElem?_eq_getElem (by omega)] at h1
 obtain ⟨v, e1, e2, _⟩ := DataW.trod_int he h1
 have h2 : (cs.drop i)[0]? = some (.int k v) := by
  have : ((cs.drop i).take 1)[0]? = some (.int k v) := by rw [e1]; rfl
  rw [List.getElem?_take] at this
  simpa using this
 rw [List.getElem?_drop, Nat.add_zero] at h2
 have h3 : (xs.map (·.1))[i]? = some (.lit (.int k v)) := by
  rw [List.getElem?_map, List.getElem?_eq_getElem (by omega), e2]; rfl
 rw [← hx.1, List.getElem?_map] at h3
 cases hl : l[i]? with
 | none => rw [hl] at h3; cases h3
 | some x =>
  rw [hl] at h3
  simp only [Option.map_some, Option.some.injEq, DataW.lit.injEq, Lit.int.injEq, true_and] at h3
  rw [h2, List.getD_eq_getElem?_getD, hl, ← h3]; rfl
theorem cell_spot {W : World} {x : Addr} {v : Value} (h : W.cell? x = some v) : x.spot = none := by
 unfold World.cell? at h
 split at h
 ·split at h
  ·cases h
  ·rename_i hn; cases hs : x.spot with
   | none => rfl
   | some s => rw [hs] at hn; simp at hn
 ·cases h
theorem open_wds {n : Nat} {c0 : Value} {y : DataW H × List MemPlace} (hf1 : DataW.trod enc Tryz.prog W 0 (fun _ => true) true n 22 [c0] = some y) (hspot : ∀ a k c, c0 = .slice (some a) k c → a.spot = none) : ∃ l, Nn.Sl W c0 l := by
 rcases open_ints Tryz.underlying22 Tryz.underlying74 (by kernel_rfl) hf1 with ⟨hcs, _⟩ | ⟨x, l, c, zs, hcs, _, hl, hm, hz, _, hcell, hwz⟩
 ·simp only [List.cons.injEq, and_true] at hcs
  exact ⟨[], by rw [hcs]; exact Nn.Sl.nil W⟩
 ·simp only [List.cons.injEq, and_true] at hcs
  subst hcs
  have hsp := hspot _ _ _ rfl
  obtain ⟨b, off, sp⟩ := x
  simp only at hsp
  subst hsp
  have hzl : zs.length = c := by simpa using hz
  have hwf : ∀ n ∈ zs, 0 ≤ n ∧ n < 4294967296 := by
   intro n hn
   have := hwz n hn
   simp only [Lit.wf, Bool.and_eq_true, decide_eq_true_eq] at this
   have e1 : IntKind.u32.min = 0 := by rfl
   have e2 : IntKind.u32.max = 4294967295 := by rfl
   rw [e1, e2] at this
   omega
  refine ⟨(zs.take l).map Int.toNat, some ⟨b, off, none⟩, c, by simp; omega, by simp; omega, hm, ?_, ?_, by rintro a ha; simp only [Option.some.injEq] at ha; rw [← ha]⟩
  ·intro u hu
   obtain ⟨z, hz1, rfl⟩ := List.mem_map.1 hu
   have := hwf z (List.mem_of_mem_take hz1)
   omega
  ·intro hne
   have hlpos : 0 < l := by
    rcases Nat.eq_zero_or_pos l with h | h
    ·subst h; simp at hne
    ·exact h
   refine ⟨b, off, rfl, ?_, fun i hi => ?_⟩
   ·have := hcell 0 (by omega)
    exact World.block_lt_of_cell? W _ (by simpa [Addr.add] using this)
   ·simp at hi
    have h3 := hcell i (by omega)
    have e4 : (⟨b, off, none⟩ : Addr).add i = ⟨b, off + i, none⟩ := by simp [Addr.add]
    rw [e4] at h3
    rw [h3]
    have h4 := hwf (zs.getD i 0) (by rw [List.getD_eq_getElem?_getD, List.getElem?_eq_getElem (by omega)]; exact List.getElem_mem _)
    have hil : i < l := by omega
    have e5 : ((zs.take l).map Int.toNat).getD i 0 = (zs.getD i 0).toNat := by
     simp [List.getD_eq_getElem?_getD, hil, List.getElem?_eq_getElem (show i < zs.length by omega)]
    rw [e5]
    congr 2
    omega
theorem spot_of {r : Reach} {base : Nat} {T : TypeId} {v : Value} (ht : Tryz.prog.underlying T = some (.slice 74)) (h : Cell.okWide Tryz.prog W r base T v) : ∀ a k c, v = .slice (some a) k c → a.spot = none := by
 intro a k c e
 subst e
 simp only [Cell.okWide, ht, Cell.ok] at h
 exact h.2.2.2.1
theorem open_nat {r : Reach} {base : Nat} {v : Value} {d : DataW H} {p : List MemPlace}
  (hv : Value.okWide Tryz.prog W r base 24 v) (h : DataW.Trod enc Tryz.prog W 0 (fun _ => true) true 24 v d p) : ∃ (a : Option Addr) (l : List Nat) (k : Nat), v = .agg #[.slice a l.length k] ∧ Nn.Sl W (.slice a l.length k) l := by
 have hv' := hv
 obtain ⟨cs, rfl, hsz⟩ := okWide_struct Tryz.underlying24 hv
 have h1 : cs.size = 1 := hsz.trans (by kernel_rfl)
 obtain ⟨c0, rfl⟩ : ∃ c0, cs = #[c0] := by
  match cs, h1 with
  | ⟨[c]⟩, _ => exact ⟨c, rfl⟩
 obtain ⟨fuel, hf⟩ := h
 obtain ⟨y0, n, hx, _, hf0⟩ := trod_struct1 Tryz.underlying24 hf
 have hf1 : DataW.trod enc Tryz.prog W 0 (fun _ => true) true n 22 [c0] = some y0 := hf0
 have hspot : ∀ a k c, c0 = .slice (some a) k c → a.spot = none := by
  have h2 : Value.okWide Tryz.prog W r base 24 (.agg #[c0]) := hv'
  simp only [Value.okWide, Tryz.underlying24] at h2
  obtain ⟨cs', e1, _, ts, e2, _, h3⟩ := h2
  obtain rfl : cs' = #[c0] := by simpa using e1.symm
  obtain ⟨u, hu, hcell⟩ := h3 0 c0 rfl
  have e3 : Tryz.prog.cellTypes Tryz.prog.depth 24 = some [22] := by kernel_rfl
  rw [e3] at e2
  obtain rfl := Option.some.inj e2
  simp only [List.length_singleton, Nat.mod_one, List.getElem?_cons_zero, Option.some.injEq] at hu
  subst hu
  exact spot_of Tryz.underlying22 hcell
 obtain ⟨l, hl⟩ := open_wds hf1 hspot
 have hl2 := hl
 obtain ⟨a, k, rfl, _⟩ := hl2
 exact ⟨a, l, k, rfl, hl⟩
theorem open_key {r : Reach} {base : Nat} {v : Value} {d : DataW H} {p : List MemPlace}
  (hv : Value.okWide Tryz.prog W r base 26 v) (h : DataW.Trod enc Tryz.prog W 0 (fun _ => true) true 26 v d p) :
  ∃ (a : Option Addr) (l : List Nat) (k : Nat) (a2 : Option Addr) (l2 : List Nat) (k2 : Nat), v = .agg #[.slice a l.length k, .slice a2 l2.length k2] ∧ Nn.Sl W (.slice a l.length k) l ∧ Nn.Sl W (.slice a2 l2.length k2) l2 := by
 have hv' := hv
 obtain ⟨cs, rfl, hsz⟩ := okWide_struct Tryz.underlying26 hv
 have h1 : cs.size = 2 := hsz.trans (by kernel_rfl)
 obtain ⟨c0, c1, rfl⟩ : ∃ c0 c1, cs = #[c0, c1] := by
  match cs, h1 with
  | ⟨[c, c']⟩, _ => exact ⟨c, c', rfl⟩
 obtain ⟨fuel, hf⟩ := h
 obtain ⟨y0, y1, n, hx, _, hf0, hf1⟩ := trod_struct2 Tryz.underlying26 hf
 have g0 : DataW.trod enc Tryz.prog W 0 (fun _ => true) true n 24 [c0] = some y0 := hf0
 have g1 : DataW.trod enc Tryz.prog W 0 (fun _ => true) true n 24 [c1] = some y1 := hf1
 obtain ⟨z0, n0, _, _, k0⟩ := trod_struct1 Tryz.underlying24 g0
 obtain ⟨z1, n1, _, _, k1⟩ := trod_struct1 Tryz.underlying24 g1
 have q0 : DataW.trod enc Tryz.prog W 0 (fun _ => true) true n0 22 [c0] = some z0 := k0
 have q1 : DataW.trod enc Tryz.prog W 0 (fun _ => true) true n1 22 [c1] = some z1 := k1
 have h2 : Value.okWide Tryz.prog W r base 26 (.agg #[c0, c1]) := hv'
 simp only [Value.okWide, Tryz.underlying26] at h2
 obtain ⟨cs', e1, _, ts, e2, _, h3⟩ := h2
 obtain rfl : cs' = #[c0, c1] := by simpa using e1.symm
 have e3 : Tryz.prog.cellTypes Tryz.prog.depth 26 = some [22, 22] := by kernel_rfl
 rw [e3] at e2
 obtain rfl := Option.some.inj e2
 obtain ⟨u, hu, hcell⟩ := h3 0 c0 rfl
 obtain ⟨u', hu', hcell'⟩ := h3 1 c1 rfl
 obtain rfl : u = 22 := (Option.some.inj hu).symm
 obtain rfl : u' = 22 := (Option.some.inj hu').symm
 obtain ⟨l, hl⟩ := open_wds q0 (spot_of Tryz.underlying22 hcell)
 obtain ⟨l2, hl2⟩ := open_wds q1 (spot_of Tryz.underlying22 hcell')
 have hl' := hl
 have hl2' := hl2
 obtain ⟨a, k, rfl, _⟩ := hl'
 obtain ⟨a2, k2, rfl, _⟩ := hl2'
 exact ⟨a, l, k, a2, l2, k2, rfl, hl, hl2⟩
end
open Go.ChangeShapes Go.WideShapes Go.ChangeAt Go.RowKit Go.Deep
abbrev laid4 : List (String × DataW Unit) := [("math/bits.deBruijn64tab", Rows.laid_math_bits_deBruijn64tab), ("specie/prime.bases", Rows.laid_specie_prime_bases), ("specie/digest.constants", Rows.laid_specie_digest_constants), ("specie/digest.start", Rows.laid_specie_digest_start)]
theorem gCon : Tryz.prog.globalNamed "specie/digest.constants" = some 2 := by kernel_rfl
theorem gSta : Tryz.prog.globalNamed "specie/digest.start" = some 0 := by kernel_rfl
theorem tCon : (Tryz.prog.globals[2]?).map (·.type) = some 133 := by kernel_rfl
theorem tSta : (Tryz.prog.globals[0]?).map (·.type) = some 116 := by kernel_rfl
def Kn : List Nat := [1116352408, 1899447441, 3049323471, 3921009573, 961987163, 1508970993, 2453635748, 2870763221, 3624381080, 310598401, 607225278, 1426881987, 1925078388, 2162078206, 2614888103, 3248222580, 3835390401, 4022224774, 264347078, 604807628, 770255983, 1249150122, 1555081692, 1996064986, 2554220882, 2821834349, 2952996808, 3210313671, 3336571891, 3584528711, 113926993, 338241895, 666307205, 773529912, 1294757372, 1396182291, 1695183700, 1986661051, 2177026350, 2456956037, 2730485921, 2820302411, 3259730800, 3345764771, 3516065817, 3600352804, 4094571909, 275423344, 430227734, 506948616, 659060556, 883997877, 958139571, 1322822218, 1537002063, 1747873779, 1955562222, 2024104815, 2227730452, 2361852424, 2428436474, 2756734187, 3204031479, 3329325298]
def Hn : List Nat := [1779033703, 3144134277, 1013904242, 2773480762, 1359893119, 2600822924, 528734635, 1541459225]
theorem Kn_c : Kc = Kn.map fun (x : Nat) => (x : Int) := by decide
theorem Hn_c : Hc = Hn.map fun (x : Nat) => (x : Int) := by decide
theorem map_getD (l : List Nat) (i : Nat) : (l.map fun (x : Nat) => (x : Int)).getD i 0 = ((l.getD i 0 : Nat) : Int) := by
 rw [List.getD_eq_getElem?_getD, List.getD_eq_getElem?_getD, List.getElem?_map]
 cases l[i]? <;> rfl
section
variable {H : Type} {enc : TypeId × Value → H} {W : World}
theorem of_laid4 (h : laidMetH Tryz.prog laid4 W) : Laid W ∧ TabD W := by
 rw [MakeChecks.laidMetH_plain _ _ _ (by kernel_rfl)] at h
 obtain ⟨ps, ⟨g0, t0, cs0, f0, p0, q0, hg0, ht0, hv0, hd0, ⟨g1, t1, cs1, f1, p1, q1, hg1, ht1, hv1, hd1, ⟨g2, t2, cs2, f2, p2, q2, hg2, ht2, hv2, hd2, ⟨g3, t3, cs3, f3, p3, q3, hg3, ht3, hv3, hd3, _, _⟩, _⟩, _⟩, _⟩, _, _⟩ := h
 obtain rfl := Option.some.inj (gTab.symm.trans hg0)
 obtain rfl := Option.some.inj (gBas.symm.trans hg1)
 obtain rfl := Option.some.inj (gCon.symm.trans hg2)
 obtain rfl := Option.some.inj (gSta.symm.trans hg3)
 obtain rfl := Option.some.inj (tTab.symm.trans ht0)
 obtain rfl := Option.some.inj (tBas.symm.trans ht1)
 obtain rfl := Option.some.inj (tCon.symm.trans ht2)
 obtain rfl := Option.some.inj (tSta.symm.trans ht3)
 have k0 := cells_of_tab (l := Lib.deBruijn64tab) Tryz.underlying137 Tryz.underlying5 (by kernel_rfl) hd0
 have k1 := cells_of_tab (l := Pri.bases) Tryz.underlying124 Tryz.underlying49 (by kernel_rfl) hd1
 have k2 := cells_of_tab (l := Kn) Tryz.underlying133 Tryz.underlying74 (by kernel_rfl) hd2
 have k3 := cells_of_tab (l := Hn) Tryz.underlying116 Tryz.underlying74 (by kernel_rfl) hd3
 have c0 : ∀ j, j < 64 → W.cell? ⟨4, j, none⟩ = some (.int .u8 (Lib.deBruijn64tab.getD j 0 : Nat)) := fun j hj => by
  rw [World.var?_cell hg0 hv0 j, ← Array.getElem?_toList]; exact k0 j hj
 have c1 : ∀ j, j < 12 → W.cell? ⟨1, j, none⟩ = some (.int .u64 (Pri.bases.getD j 0 : Nat)) := fun j hj => by
  rw [World.var?_cell hg1 hv1 j, ← Array.getElem?_toList]; exact k1 j hj
 have c2 : ∀ j, j < 64 → W.cell? ⟨2, j, none⟩ = some (.int .u32 (Kn.getD j 0 : Nat)) := fun j hj => by
  rw [World.var?_cell hg2 hv2 j, ← Array.getElem?_toList]; exact k2 j hj
 have c3 : ∀ j, j < 8 → W.cell? ⟨0, j, none⟩ = some (.int .u32 (Hn.getD j 0 : Nat)) := fun j hj => by
  rw [World.var?_cell hg3 hv3 j, ← Array.getElem?_toList]; exact k3 j hj
 refine ⟨⟨c1, fun j hj => c0 j hj, World.block_lt_of_cell? W ⟨4, 0, none⟩ (c0 0 (by omega)), World.block_lt_of_cell? W ⟨1, 0, none⟩ (c1 0 (by omega))⟩, fun i hi => ?_, fun i hi => ?_⟩
 ·exact ⟨⟨World.block_lt_of_cell? W ⟨2, 0, none⟩ (c2 0 (by omega)), trivial⟩, by rw [Kn_c, map_getD]; exact c2 i hi⟩
 ·exact ⟨⟨World.block_lt_of_cell? W ⟨0, 0, none⟩ (c3 0 (by omega)), trivial⟩, by rw [Hn_c, map_getD]; exact c3 i hi⟩
theorem door_met4 (os : Os) (args : Array Value) : laidMetH Tryz.prog laid4 ((World.doorLaid Tryz.prog 400 os).forCall (fun _ _ => 0) ⟨#[], args, []⟩).memory :=
 laidMetH_of_parts3 (fuel := 8) (laidMet_of_run' 8 (by kernel_rfl) (by kernel_rfl)) (by kernel_rfl) (by kernel_rfl)
theorem open_bytes {n : Nat} {c0 : Value} {y : DataW H × List MemPlace} (h : DataW.trod enc Tryz.prog W 0 (fun _ => true) true n 36 [c0] = some y) : ∃ l, Bs W (fun _ => True) c0 l := by
 rcases open_ints Tryz.underlying36 Tryz.underlying5 (by kernel_rfl) h with ⟨hcs, _⟩ | ⟨x, l, c, zs, hcs, _, hl, hm, hz, _, hcell, hwz⟩
 ·simp only [List.cons.injEq, and_true] at hcs
  exact ⟨[], by rw [hcs]; exact Bs.nil W _⟩
 ·simp only [List.cons.injEq, and_true] at hcs
  subst hcs
  have hzl : zs.length = c := by simpa using hz
  have hwf : ∀ n ∈ zs, 0 ≤ n ∧ n < 256 := by
   intro n hn
   have := hwz n hn
   simp only [Lit.wf, Bool.and_eq_true, decide_eq_true_eq] at this
   have e1 : IntKind.u8.min = 0 := by rfl
   have e2 : IntKind.u8.max = 255 := by rfl
   rw [e1, e2] at this
   omega
  refine ⟨(zs.take l).map Int.toNat, some x, c, by simp; omega, by simp; omega, by unfold maxLen at hm; omega, ?_, ?_, trivial⟩
  ·intro u hu
   obtain ⟨z, hz1, rfl⟩ := List.mem_map.1 hu
   have := hwf z (List.mem_of_mem_take hz1)
   omega
  ·intro hne
   have hlpos : 0 < l := by
    rcases Nat.eq_zero_or_pos l with h | h
    ·subst h; simp at hne
    ·exact h
   have hc0 := hcell 0 (by omega)
   have hsp := cell_spot hc0
   obtain ⟨b, off, sp⟩ := x
   simp only [Addr.add] at hsp
   subst hsp
   refine ⟨b, off, rfl, ⟨World.block_lt_of_cell? W _ (by simpa [Addr.add] using hc0), trivial⟩, fun i hi => ?_⟩
   simp at hi
   have h3 := hcell i (by omega)
   have e4 : (⟨b, off, none⟩ : Addr).add i = ⟨b, off + i, none⟩ := by simp [Addr.add]
   rw [e4] at h3
   rw [h3]
   have h4 := hwf (zs.getD i 0) (by rw [List.getD_eq_getElem?_getD, List.getElem?_eq_getElem (by omega)]; exact List.getElem_mem _)
   have hil : i < l := by omega
   have e5 : ((zs.take l).map Int.toNat).getD i 0 = (zs.getD i 0).toNat := by
    simp [List.getD_eq_getElem?_getD, hil, List.getElem?_eq_getElem (show i < zs.length by omega)]
   rw [e5]
   congr 2
   omega
theorem open_b8 {r : Reach} {base : Nat} {v : Value} {d : DataW H} {p : List MemPlace} (hv : Value.okWide Tryz.prog W r base 36 v) (h : DataW.Trod enc Tryz.prog W 0 (fun _ => true) true 36 v d p) :
  ∃ (l : List Nat) (xa : Option Addr) (xk : Nat), v = .slice xa l.length xk ∧ Fct.at W (fun _ => True) (.bs (.slice xa l.length xk) l) := by
 obtain ⟨a, l0, c, rfl⟩ := okWide_slice Tryz.underlying36 hv
 obtain ⟨fuel, hf⟩ := h
 obtain ⟨l, hl⟩ := open_bytes (c0 := .slice a l0 c) hf
 obtain ⟨xa, xk, e⟩ := hl.len
 exact ⟨l, xa, xk, e, by rw [← e]; exact hl⟩
end
end Go.Proofs.YtikopkkebdobdaaGreatDoor

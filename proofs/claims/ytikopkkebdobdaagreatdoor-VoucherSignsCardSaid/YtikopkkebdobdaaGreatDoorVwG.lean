/- Picked declarations of VoG, VoH, VoI, VoJ. -/
import Derived.Test.YtikopkkebdobdaaGreatDoorVwU
import Derived.Test.YtikopkkebdobdaaGreatDoorVwD
import Derived.Test.YtikopkkebdobdaaGreatDoorVwN
namespace Go.Proofs.YtikopkkebdobdaaGreatDoor
set_option maxRecDepth 100000
set_option maxHeartbeats 8000000
open Nn.NatMath (len digs)
open Nn (Sl vld ResN ResZ)
set_option linter.unusedVariables false
set_option linter.unusedSimpArgs false
open Go.RowKit DivMath WordMath
/-- a factor's power of the root is not 1 -/
def PartOk (N R L M : Nat) : Prop := ∃ q S, L / M = q ∧ R ^ q % N = S ∧ One S ∧ One M ∧ One q ∧ S ≠ 1
/-- N's certificate is right: root R, L = N - 1, the parts' numbers -/
def Cok (N R L : Nat) (l : List Nat) : Prop := (One N ∧ One R ∧ One L) ∧ R < N ∧ 2 ≤ N ∧ N - 1 = L ∧ R ^ L % N = 1 ∧ l.foldl (· * ·) 1 = L ∧ ∀ M ∈ l, PartOk N R L M
/-- N passes the test, l are the factors of N - 1, R is the least root -/
def Dok (N R : Nat) (l : List Nat) : Prop := (One N ∧ One R) ∧ 2 ≤ N ∧ Pri.isP N = true ∧ Pri.facN (N - 1) = some l ∧ Pri.RootR N l R
inductive Ct where
 | mk (N R : Nat) (ps : List Ct)
def Ct.num : Ct → Nat
 | .mk N _ _ => N
def Ct.root : Ct → Nat
 | .mk _ R _ => R
def Ct.parts : Ct → List Ct
 | .mk _ _ ps => ps
/-- three cells are a certificate that reads as the tree -/
def CtAt : Nat → World → (Nat → Prop) → Ct → Value → Value → Value → Prop
 | 0, _, _, _, _, _, _ => False
 | d + 1, w, D, c, u, v, z => (∃ a k, u = .slice a 1 k) ∧ Rw w D u 1 1 (wd c.num) ∧ (∃ a k, v = .slice a 1 k) ∧ Rw w D v 1 1 (wd c.root) ∧
  ∃ (ao : Option Addr) (k : Nat), z = .slice ao c.parts.length k ∧ c.parts.length ≤ k ∧ k ≤ 9223372036854775807 ∧
   (c.parts ≠ [] → ∃ b off, ao = some ⟨b, off, none⟩ ∧ (b < w.heap.size ∧ D b) ∧ ∀ i (h : i < c.parts.length), ∃ u' v' z', w.cell? ⟨b, off + i * 3, none⟩ = some u' ∧ w.cell? ⟨b, off + i * 3 + 1, none⟩ = some v' ∧ w.cell? ⟨b, off + i * 3 + 2, none⟩ = some z' ∧ CtAt d w D c.parts[i] u' v' z')
theorem CtAt.turn {w w' : World} {D D' : Nat → Prop} (hs : w.heap.size ≤ w'.heap.size) (hD : ∀ b, b < w.heap.size → D b → D' b) (hc : ∀ b i, b < w.heap.size → D b → w'.cell? ⟨b, i, none⟩ = w.cell? ⟨b, i, none⟩) : ∀ {d : Nat} {c : Ct} {u v z : Value}, CtAt d w D c u v z → CtAt d w' D' c u v z
 | 0, _, _, _, _, h => h
 | d + 1, c, u, v, z, h => by
  obtain ⟨h1, h2, h3, h4, ao, k, h5, h6, h7, h8⟩ := h
  refine ⟨h1, Rw.turn h2 hs hD hc, h3, Rw.turn h4 hs hD hc, ao, k, h5, h6, h7, fun hp => ?_⟩
  obtain ⟨b, off, e, ⟨hb, hd⟩, hi⟩ := h8 hp
  refine ⟨b, off, e, ⟨Nat.lt_of_lt_of_le hb hs, hD b hb hd⟩, fun i hl => ?_⟩
  obtain ⟨u', v', z', e1, e2, e3, hc'⟩ := hi i hl
  exact ⟨u', v', z', (hc b _ hb hd).trans e1, (hc b _ hb hd).trans e2, (hc b _ hb hd).trans e3, CtAt.turn hs hD hc hc'⟩
def gCt (d : Nat) (c : Ct) (u v z : Value) : GF where
 at_ w D := CtAt d w D c u v z
 turn h hs hD hc := CtAt.turn hs hD hc h
section
variable {D0 D : Nat → Prop} {w W : World} {F : List Bx} {G : List Fct} {d : Nat} {c : Ct} {u v z : Value}
theorem CtAt.forms (h : CtAt d W D c u v z) : ∃ ua uk va vk za zk, u = .slice ua 1 uk ∧ v = .slice va 1 vk ∧ z = .slice za c.parts.length zk := by
 cases d with
 | zero => cases h
 | succ d =>
  obtain ⟨⟨ua, uk, h1⟩, _, ⟨va, vk, h3⟩, _, za, zk, h5, _⟩ := h
  exact ⟨ua, uk, va, vk, za, zk, h1, h3, h5⟩
theorem gCt.n (h : Fct.at W D (.gn (gCt d c u v z))) : Fct.at W D (.rw u 1 1 (wd c.num)) := by
 have h : CtAt d W D c u v z := h
 cases d with
 | zero => cases h
 | succ d => exact h.2.1
theorem gCt.r (h : Fct.at W D (.gn (gCt d c u v z))) : Fct.at W D (.rw v 1 1 (wd c.root)) := by
 have h : CtAt d W D c u v z := h
 cases d with
 | zero => cases h
 | succ d => exact h.2.2.2.1
theorem gCt.addr {xa : Option Addr} {n k : Nat} (h : Fct.at W D (.gn (gCt (d + 1) c u v (.slice xa n k)))) (hp : 0 < c.parts.length) : ∃ b off, xa = some ⟨b, off, none⟩ := by
 have h : CtAt (d + 1) W D c u v (.slice xa n k) := h
 obtain ⟨_, _, _, _, ao, k', e, _, _, h8⟩ := h
 cases e
 obtain ⟨b, off, e, _⟩ := h8 (fun e => by rw [e] at hp; cases hp)
 exact ⟨b, off, e⟩
theorem gCt.any (h : Fct.at W D (.gn (gCt d c u v z))) : Fct.at W (fun _ => True) (.gn (gCt d c u v z)) := Fct.any h
/-- element k of the parts -/
theorem Env.elCt {b o n k' : Nat} (h : Env D0 w F G W) (i : Nat) (e : G[i]? = some (.gn (gCt (d + 1) c u v (.slice (some ⟨b, o, none⟩) n k')))) (k : Nat) (hk : k < c.parts.length) :
  ∃ ua uk va vk za zk, Env D0 w F (.ce b (o + k * 3) (.slice ua 1 uk) :: .ce b (o + k * 3 + 1) (.slice va 1 vk) :: .ce b (o + k * 3 + 2) (.slice za c.parts[k].parts.length zk) :: .gn (gCt d c.parts[k] (.slice ua 1 uk) (.slice va 1 vk) (.slice za c.parts[k].parts.length zk)) :: G) W := by
 have hm : CtAt (d + 1) W (DF D0 w.heap.size F) c u v (.slice (some ⟨b, o, none⟩) n k') := h.fct.get i e
 obtain ⟨_, _, _, _, ao, k2, e2, _, _, h8⟩ := hm
 cases e2
 obtain ⟨b', off', e3, hb, hi⟩ := h8 (fun e => by rw [e] at hk; cases hk)
 simp only [Option.some.injEq, Addr.mk.injEq, and_true] at e3
 obtain ⟨rfl, rfl⟩ := e3
 obtain ⟨u', v', z', e1, e2, e3, hc⟩ := hi k hk
 obtain ⟨ua, uk, va, vk, za, zk, rfl, rfl, rfl⟩ := hc.forms
 exact ⟨ua, uk, va, vk, za, zk, (((h.note (.gn (gCt d _ _ _ _)) hc).note (.ce _ _ _) ⟨hb, e3⟩).note (.ce _ _ _) ⟨hb, e2⟩).note (.ce _ _ _) ⟨hb, e1⟩⟩
end
/-- the product of the first k parts -/
def Ct.pr (c : Ct) : Nat → Nat
 | 0 => 1
 | k + 1 => c.pr k * ((c.parts.map Ct.num).getD k 1)
/-- the certificate is right, in all its parts -/
def CtOk : Nat → Ct → Prop
 | 0, _ => False
 | d + 1, c => Cok c.num c.root (c.num - 1) (c.parts.map Ct.num) ∧ c.pr c.parts.length = c.num - 1 ∧ (∀ k, k ≤ c.parts.length → One (c.pr k) ∧ c.pr k ≤ c.num - 1) ∧ (∀ j (h : j + 1 < c.parts.length), c.parts[j].num ≤ c.parts[j + 1].num) ∧ (∀ i (h : i < c.parts.length), CtOk d c.parts[i]) ∧ c.parts.length ≤ 100
def CtDo : Nat → Ct → Prop
 | 0, _ => False
 | d + 1, c => Dok c.num c.root (c.parts.map Ct.num) ∧ (∀ i (h : i < c.parts.length), CtDo d c.parts[i]) ∧ c.parts.length ≤ 100
/-- how many certificates the first k parts hold -/
def Ct.szk : Nat → Ct → Nat → Nat
 | _, _, 0 => 1
 | 0, _, _ => 1
 | d + 1, c, k + 1 => Ct.szk (d + 1) c k + match c.parts[k]? with
  | some p => Ct.szk d p p.parts.length
  | none => 0
 termination_by d _ k => (d, k)
def Ct.sz (d : Nat) (c : Ct) : Nat := Ct.szk d c c.parts.length
theorem Ct.szk_zero {d : Nat} {c : Ct} : Ct.szk d c 0 = 1 := by unfold Ct.szk; rfl
theorem Ct.szk_succ {d : Nat} {c : Ct} {k : Nat} (hk : k < c.parts.length) : Ct.szk (d + 1) c (k + 1) = Ct.szk (d + 1) c k + Ct.sz d c.parts[k] := by
 rw [Ct.szk.eq_def]
 simp only [List.getElem?_eq_getElem hk]
 rfl
theorem Ct.szk_mono {d : Nat} {c : Ct} {k : Nat} : ∀ {m : Nat}, k ≤ m → m ≤ c.parts.length → Ct.szk (d + 1) c k ≤ Ct.szk (d + 1) c m
 | 0, h, _ => by rw [Nat.le_zero.1 h]; exact Nat.le_refl _
 | m + 1, h, hm => by
  by_cases e : k = m + 1
  ·rw [e]; exact Nat.le_refl _
  ·have := Ct.szk_mono (d := d) (c := c) (k := k) (m := m) (by omega) (by omega)
   rw [Ct.szk_succ (by omega)]
   omega
theorem Ct.pr_succ {c : Ct} {k : Nat} (hk : k < c.parts.length) : c.pr (k + 1) = c.pr k * c.parts[k].num := by
 rw [Ct.pr, List.getD_eq_getElem?_getD, List.getElem?_map, List.getElem?_eq_getElem hk]; rfl
/-- the closed step of an induction over the depth -/
theorem map_mem {c : Ct} {k : Nat} (hk : k < c.parts.length) : c.parts[k].num ∈ c.parts.map Ct.num := List.mem_map.2 ⟨_, List.getElem_mem hk, rfl⟩
open Nn.NatMath in
theorem cmp_gt {a b : Nat} (h : a ≤ b) : decide (0 < Nn.NatMath.cmp a b) = false := by
 unfold Nn.NatMath.cmp
 split
 ·rfl
 ·have : a = b := by omega
  subst this; simp
open Nn.NatMath in
theorem cmp_lt' {a b : Nat} (h : a < b) : decide (0 ≤ Nn.NatMath.cmp a b) = false := by
 have := Nn.NatMath.cmp_lt_iff a b
 rw [decide_eq_true h, decide_eq_true_eq] at this
 exact decide_eq_false (by omega)
theorem cmp_ge' {a b : Nat} (h : b ≤ a) : decide (Nn.NatMath.cmp a b < 0) = false := by
 rw [Nn.NatMath.cmp_lt_iff]; exact decide_eq_false (by omega)
theorem cmp_self (a : Nat) : Nn.NatMath.cmp a a = 0 := by
 have := Nn.NatMath.cmp_zero_iff a a
 rw [decide_eq_true rfl, beq_iff_eq] at this; exact this
theorem bl_word {N : Nat} (h : One N) : decide ((1024 : Int) < (Nn.NatMath.bl N : Nat)) = false := by
 have : Nn.NatMath.bl N ≤ 32 := Nn.NatMath.bl_le_iff.2 (by have := h.2; omega)
 exact decide_eq_false (by omega)
theorem bl_some {N : Nat} (h : One N) : (((Nn.NatMath.bl N : Nat) : Int) == 0) = false := by
 have : Nn.NatMath.bl N ≠ 0 := by unfold Nn.NatMath.bl; rw [if_neg (by have := h.1; omega)]; omega
 exact beq_eq_false_iff_ne.2 (by omega)
open Go.RowKit DivMath WordMath
def CountH (d : Nat) : Prop := ∀ (c : Ct) (l0 : Int) {xna xra xza : Option Addr} {xnk xrk xzk : Nat} {w : World}, Fct.at w (fun _ => True) (.gn (gCt d c (.slice xna 1 xnk) (.slice xra 1 xrk) (.slice xza c.parts.length xzk))) → (Ct.sz d c : Int) ≤ l0 ∧ l0 ≤ 1000 → c.parts.length ≤ 100 → CtOk d c → Calls Tryz.prog 124 #[.agg #[.slice xna 1 xnk, .slice xra 1 xrk, .slice xza c.parts.length xzk], .int .i64 l0] w fun e w' => e = .returned (.int .i64 (Ct.sz d c : Nat)) ∧ Below w.heap.size w w'
theorem wrapI_sub {a : Int} {b : Nat} {c : Int} (h : c = a - (b : Int)) (h1 : 0 ≤ c) (h2 : c ≤ 1000) : IntKind.i64.wrap (a - (b : Int)) = c := by rw [IntKind.wrap_i64]; omega
theorem wrap64_sub {a : Int} {b : Nat} {c : Int} (h : c = a - (b : Int)) (h1 : 0 ≤ c) (h2 : c ≤ 1000) : wrap64 (a - (b : Int)) = c := by rw [IntWalk.wrap64_in _ (by omega)]; omega
theorem wrapI_sum {a b c : Nat} (h : a + b = c) (h2 : c ≤ 100000) : IntKind.i64.wrap ((a : Int) + (b : Int)) = (c : Int) := by rw [IntKind.wrap_i64]; omega
theorem wrap64_sum {a b c : Nat} (h : a + b = c) (h2 : c ≤ 100000) : wrap64 ((a : Int) + (b : Int)) = (c : Int) := by rw [IntWalk.wrap64_in _ (by omega)]; omega
theorem cnt_step {m sp M : Nat} {l0 : Int} (h : M = m + sp) (hM : (M : Int) ≤ l0) (hl : l0 ≤ 1000) : ∃ (m2 : Nat) (l1 : Int), m2 = M ∧ ((sp : Int) ≤ l1 ∧ l1 ≤ 1000) ∧ IntKind.i64.wrap ((m : Int) + (sp : Int)) = (m2 : Int) ∧ wrap64 ((m : Int) + (sp : Int)) = (m2 : Int) ∧ IntKind.i64.wrap (l0 - (m : Int)) = l1 ∧ wrap64 (l0 - (m : Int)) = l1 ∧ decide (l0 < (m : Int)) = false ∧ -1 ≤ l1 ∧ -1 ≤ l1 :=
 ⟨M, l0 - (m : Int), rfl, by omega, wrapI_sum h.symm (by omega), wrap64_sum h.symm (by omega), wrapI_sub rfl (by omega) (by omega), wrap64_sub rfl (by omega) (by omega), decide_eq_false (by omega), by omega, by omega⟩
theorem CtOk.few {d : Nat} {c : Ct} (h : CtOk d c) : c.parts.length ≤ 100 := by
 cases d with
 | zero => cases h
 | succ d => exact h.2.2.2.2.2
theorem count_s {D : Nat → Prop} (d : Nat) (c : Ct) (l0 : Int) {xna xra xza : Option Addr} {xnk xrk xzk : Nat} {w : World} (hx : Fct.at w D (.gn (gCt (d + 1) c (.slice xna 1 xnk) (.slice xra 1 xrk) (.slice xza c.parts.length xzk)))) (ih0 : CountH d) (hs0 : (Ct.sz (d + 1) c : Int) ≤ l0) (hl : l0 ≤ 1000) (hp : c.parts.length ≤ 100) (hk0 : CtOk (d + 1) c) :
  Calls Tryz.prog 124 #[.agg #[.slice xna 1 xnk, .slice xra 1 xrk, .slice xza c.parts.length xzk], .int .i64 l0] w fun e w' => e = .returned (.int .i64 (Ct.sz (d + 1) c : Nat)) ∧ Below w.heap.size w w' := by
 have E0 := Zh ((Env.start D w).arg (.gn (gCt (d + 1) c (.slice xna 1 xnk) (.slice xra 1 xrk) (.slice xza c.parts.length xzk))) hx)
 clear hx
 go_enter Tryz.func124, Tryz.ntmps124
 have ih := Zh ih0
 have hs := Zh hs0
 have hk := Zh hk0
 clear ih0 hs0 hk0
 have HP := Zh hp
 have hl0 : 0 ≤ l0 := by have := hs.out; omega
 go_wp2_with fail
 have E1 := Zh ((E0.out.push 57 [.slice xna 1 xnk, .slice xra 1 xrk, .slice xza c.parts.length xzk] (w.heap.size) (by simp)))
 go_loopg [11, 5] (c.parts.length) (fun gk s11 s5 wr => ∃ (k m : Nat), s11 = .int .i64 (k : Int) ∧ s5 = .int .i64 (m : Int) ∧ Hid (Env D w [(w.heap.size, 57, [.slice xna 1 xnk, .slice xra 1 xrk, .slice xza c.parts.length xzk])] [.gn (gCt (d + 1) c (.slice xna 1 xnk) (.slice xra 1 xrk) (.slice xza c.parts.length xzk))] wr) ∧ Hid ((k ≤ c.parts.length ∧ gk = c.parts.length - k) ∧ m = Ct.szk (d + 1) c k))
 case atStart => exact ⟨0, 1, rfl, rfl, Zh E1.out, Zh ⟨⟨Nat.zero_le _, rfl⟩, Ct.szk_zero.symm⟩⟩
 case round =>
  clear E0 E1
  obtain ⟨k, m, rfl, rfl, EL, HA⟩ := hrel
  obtain ⟨⟨a1, a2⟩, a3⟩ := HA.out
  have HM := Zh a3
  clear a3 HA
  by_cases hy : k = c.parts.length
  rotate_left
  ·have hk9 : k < c.parts.length := by omega
   have HK := Zh hk9
   have t6 : decide ((k : Int) < (c.parts.length : Int)) = true := decide_eq_true (by omega)
   have t6n : decide (k < c.parts.length) = true := decide_eq_true (by omega)
   clear hy
   have hm9 : (Ct.szk (d + 1) c (k + 1) : Int) ≤ l0 := by have h1 := hs.out; have h2 := Ct.szk_mono (d := d) (c := c) (k := k + 1) (m := c.parts.length) hk9 (Nat.le_refl _); unfold Ct.sz at h1; omega
   have HST := Zh (Ct.szk_succ (d := d) hk9)
   obtain ⟨sp, hsp⟩ : ∃ s, Ct.sz d c.parts[k] = s := ⟨_, rfl⟩
   have HSP := Zh hsp
   obtain ⟨m2, l1, q1, q2, q3, q4, q5, q6, q7, q8, q9⟩ := cnt_step (m := m) (sp := sp) (M := Ct.szk (d + 1) c (k + 1)) (l0 := l0) (by rw [HST.out, ← HM.out]; exact congrArg (m + ·) hsp) hm9 hl
   have HM2 := Zh q1
   have HL2 : Hid ((Ct.sz d c.parts[k] : Int) ≤ l1 ∧ l1 ≤ 1000) := Zh (by rw [hsp]; exact q2)
   clear hm9 hsp q1 q2
   have HKO : Hid (CtOk d c.parts[k]) := Zh (hk.out.2.2.2.2.1 k hk9)
   go_upto_region 4 with (fail)
   obtain ⟨xzb, xzo, rfl⟩ := gCt.addr (EL.out.fc 0 rfl) (by omega)
   obtain ⟨una, unk, ura, urk, uza, uzk, E20⟩ := EL.out.elCt 0 rfl (k) hk9
   have E2 : Hid (Env D w [(w.heap.size, 57, [.slice xna 1 xnk, .slice xra 1 xrk, .slice (some ⟨xzb, xzo, none⟩) c.parts.length xzk])] [.ce xzb (xzo + k * 3) (.slice una 1 unk), .ce xzb (xzo + k * 3 + 1) (.slice ura 1 urk), .ce xzb (xzo + k * 3 + 2) (.slice uza c.parts[k].parts.length uzk), .gn (gCt d c.parts[k] (.slice una 1 unk) (.slice ura 1 urk) (.slice uza c.parts[k].parts.length uzk)), .gn (gCt (d + 1) c (.slice xna 1 xnk) (.slice xra 1 xrk) (.slice (some ⟨xzb, xzo, none⟩) c.parts.length xzk))] _) := Zh E20
   clear E20 EL
   have q0 := (E2.out.fc 0 rfl).2
   have q1 := (E2.out.fc 1 rfl).2
   have q2 := (E2.out.fc 2 rfl).2
   have E3 := Zh ((E2.out.push 57 [.slice una 1 unk, .slice ura 1 urk, .slice uza c.parts[k].parts.length uzk] (wr.heap.size) (by simp)))
   go_wp2_with fail
   refine (ih.out c.parts[k] l1 (gCt.any (E3.out.fc 3 rfl)) HL2.out HKO.out.few HKO.out).mono ?_
   rintro e w1 ⟨rfl, hb⟩
   have E4 := Zh (E3.out.below hb)
   clear q0 q1 q2 E2 E3 hb
   rw [HSP.out]
   have EZ := Zh (((((E4.out.drop).forget).forget).forget).forget)
   go_wp2
   go_roundg (c.parts.length - (k + 1))
   case rel => exact ⟨k + 1, m2, rfl, rfl, EZ, Zh ⟨⟨by have := HK.out; omega, rfl⟩, HM2.out⟩⟩
   case measure => exact by have := HK.out; omega
  have t6 : decide ((k : Int) < (c.parts.length : Int)) = false := decide_eq_false (by omega)
  have t6n : decide (k < c.parts.length) = false := decide_eq_false (by omega)
  have HE : Hid ((m : Int) = ((Ct.sz (d + 1) c : Nat) : Int)) := Zh (by rw [HM.out, hy]; rfl)
  clear hy
  have hfin := Zh EL.out.bel
  go_wp2
  go_ret
  exact ⟨RetEq HE.out, hfin.out⟩
theorem count_g : ∀ d, CountH d
 | 0, c, l0, _, _, _, _, _, _, _, _, _, _, h => by cases h
 | d + 1, c, l0, _, _, _, _, _, _, w, hx, hl, hp, hk => count_s d c l0 hx (count_g d) hl.1 hl.2 hp hk
theorem Size_g {D : Nat → Prop} (d : Nat) (c : Ct) {xna xra xza : Option Addr} {xnk xrk xzk : Nat} {w : World} (hx : Fct.at w D (.gn (gCt d c (.slice xna 1 xnk) (.slice xra 1 xrk) (.slice xza c.parts.length xzk)))) (s : Nat) (hs0 : Ct.sz d c = s) (h1 : s ≤ 1000) (hk0 : CtOk d c) :
  Calls Tryz.prog 99 #[.agg #[.slice xna 1 xnk, .slice xra 1 xrk, .slice xza c.parts.length xzk]] w fun e w' => e = .returned (.int .i64 (s : Nat)) ∧ Below w.heap.size w w' := by
 have E0 := Zh ((Env.start D w).arg (.gn (gCt d c (.slice xna 1 xnk) (.slice xra 1 xrk) (.slice xza c.parts.length xzk))) hx)
 clear hx
 go_enter Tryz.func99, Tryz.ntmps99
 have hs := Zh hs0
 have hk := Zh hk0
 clear hs0 hk0
 have HS : Hid ((Ct.sz d c : Int) ≤ 1000 ∧ (1000 : Int) ≤ 1000) := Zh (by rw [hs.out]; omega)
 have t1 : decide ((1000 : Int) < (s : Int)) = false := decide_eq_false (by omega)
 have t2 : decide (1000 < s) = false := decide_eq_false (by omega)
 have E1 := Zh ((E0.out.push 57 [.slice xna 1 xnk, .slice xra 1 xrk, .slice xza c.parts.length xzk] (w.heap.size) (by simp)))
 go_wp2_with fail
 refine (count_g d c 1000 (gCt.any (E1.out.fc 0 rfl)) HS.out hk.out.few hk.out).mono ?_
 rintro e w1 ⟨rfl, hb⟩
 have E2 := Zh (E1.out.below hb)
 clear E0 E1 hb
 rw [hs.out]
 have hfin := Zh E2.out.bel
 go_wp2
 go_ret
 exact ⟨rfl, hfin.out⟩
theorem cidx_g {D : Nat → Prop} (d : Nat) (c : Ct) (g1 g2 : Nat) {xna xra xza : Option Addr} {xnk xrk xzk : Nat} {la : Option Addr} {lk : Nat} {w : World} (hx : Fct.at w D (.gn (gCt (d + 1) c (.slice xna 1 xnk) (.slice xra 1 xrk) (.slice xza c.parts.length xzk)))) (hl : Fct.at w D (.rw (.slice la 1 lk) 1 1 (wd (c.num - 1)))) (h1 : Fct.at w D (.ce g1 0 (.slice la 1 lk))) (h20 : Fct.at w D (.ce g2 0 (.slice xna 1 xnk))) (h21 : Fct.at w D (.ce g2 1 (.slice xra 1 xrk))) (h22 : Fct.at w D (.ce g2 2 (.slice xza c.parts.length xzk))) (hk0 : CtOk (d + 1) c) :
  Calls Tryz.prog 136 #[.slice xza c.parts.length xzk, .func (.func 127) #[] #[.pointer (some ⟨g1, 0, none⟩), .pointer (some ⟨g2, 0, none⟩)]] w fun e w' => e = .returned (.int .i64 (-1)) ∧ Below w.heap.size w w' := by
 have E0 := Zh (((((((Env.start D w).arg (.gn (gCt (d + 1) c (.slice xna 1 xnk) (.slice xra 1 xrk) (.slice xza c.parts.length xzk))) hx).arg (.rw (.slice la 1 lk) 1 1 (wd (c.num - 1))) hl).arg (.ce g1 0 (.slice la 1 lk)) h1).arg (.ce g2 0 (.slice xna 1 xnk)) h20).arg (.ce g2 1 (.slice xra 1 xrk)) h21).arg (.ce g2 2 (.slice xza c.parts.length xzk)) h22)
 clear hx hl h1 h20 h21 h22
 go_enter Tryz.func136, Tryz.ntmps136
 have hk := Zh hk0
 clear hk0
 have hp9 := hk.out.2.2.2.2.2
 go_wp2_with fail
 go_loopg [8] (c.parts.length) (fun gk s8 wr => ∃ (k : Nat), s8 = .int .i64 (k : Int) ∧ Hid (Env D w [] [.ce g2 2 (.slice xza c.parts.length xzk), .ce g2 1 (.slice xra 1 xrk), .ce g2 0 (.slice xna 1 xnk), .ce g1 0 (.slice la 1 lk), .rw (.slice la 1 lk) 1 1 (wd (c.num - 1)), .gn (gCt (d + 1) c (.slice xna 1 xnk) (.slice xra 1 xrk) (.slice xza c.parts.length xzk))] wr) ∧ Hid (k ≤ c.parts.length ∧ gk = c.parts.length - k))
 case atStart => exact ⟨0, rfl, Zh E0.out, Zh ⟨Nat.zero_le _, rfl⟩⟩
 case round =>
  clear E0
  obtain ⟨k, rfl, EL, HA⟩ := hrel
  obtain ⟨a1, a2⟩ := HA.out
  clear HA
  by_cases hy : k = c.parts.length
  rotate_left
  ·have hk9 : k < c.parts.length := by omega
   have t6 : decide ((k : Int) < (c.parts.length : Int)) = true := decide_eq_true (by omega)
   have t6n : decide (k < c.parts.length) = true := decide_eq_true (by omega)
   clear hy
   go_upto_region 4 with (fail)
   obtain ⟨xzb, xzo, rfl⟩ := gCt.addr (EL.out.fc 5 rfl) (by omega)
   obtain ⟨una, unk, ura, urk, uza, uzk, E10⟩ := EL.out.elCt 5 rfl (k) hk9
   have E1 : Hid (Env D w [] [.ce xzb (xzo + k * 3) (.slice una 1 unk), .ce xzb (xzo + k * 3 + 1) (.slice ura 1 urk), .ce xzb (xzo + k * 3 + 2) (.slice uza c.parts[k].parts.length uzk), .gn (gCt d c.parts[k] (.slice una 1 unk) (.slice ura 1 urk) (.slice uza c.parts[k].parts.length uzk)), .ce g2 2 (.slice (some ⟨xzb, xzo, none⟩) c.parts.length xzk), .ce g2 1 (.slice xra 1 xrk), .ce g2 0 (.slice xna 1 xnk), .ce g1 0 (.slice la 1 lk), .rw (.slice la 1 lk) 1 1 (wd (c.num - 1)), .gn (gCt (d + 1) c (.slice xna 1 xnk) (.slice xra 1 xrk) (.slice (some ⟨xzb, xzo, none⟩) c.parts.length xzk))] _) := Zh E10
   clear E10 EL
   have q0 := (E1.out.fc 0 rfl).2
   have q1 := (E1.out.fc 1 rfl).2
   have q2 := (E1.out.fc 2 rfl).2
   obtain ⟨qq, SS, o1, o2, o3, o4, o5, o6⟩ := hk.out.1.2.2.2.2.2.2 _ (map_mem hk9)
   have O := Zh (And.intro o1 (And.intro o2 (And.intro o3 (And.intro o4 (And.intro o5 (decide_eq_false o6))))))
   clear o1 o2 o3 o4 o5 o6
   go_wp2_with fail
   refine (right1 c.num c.root (c.num - 1) c.parts[k].num qq g1 g2 (gCt.n (E1.out.fc 9 rfl)) (gCt.r (E1.out.fc 9 rfl)) (E1.out.fc 8 rfl) (gCt.n (E1.out.fc 3 rfl)) (E1.out.fc 7 rfl) (E1.out.fc 6 rfl) (E1.out.fc 5 rfl) (E1.out.fc 4 rfl) SS O.out.1 O.out.2.1 O.out.2.2.1 hk.out.1.1.1 hk.out.1.1.2.1 hk.out.1.1.2.2 O.out.2.2.2.1 O.out.2.2.2.2.1 hk.out.1.2.1 O.out.2.2.2.2.2).mono ?_
   rintro e w1 ⟨rfl, hb⟩
   have E2 := Zh (E1.out.below hb)
   clear q0 q1 q2 E1 hb
   have EZ := Zh ((((E2.out.forget).forget).forget).forget)
   go_wp2
   go_roundg (c.parts.length - (k + 1))
   case rel => exact ⟨k + 1, rfl, EZ, Zh ⟨by omega, rfl⟩⟩
   case measure => exact by omega
  have t6 : decide ((k : Int) < (c.parts.length : Int)) = false := decide_eq_false (by omega)
  have t6n : decide (k < c.parts.length) = false := decide_eq_false (by omega)
  clear hy
  have hfin := Zh EL.out.bel
  go_wp2
  go_ret
  exact ⟨rfl, hfin.out⟩
theorem ccon_g {D : Nat → Prop} (d : Nat) (c : Ct) (g1 g2 : Nat) {xna xra xza : Option Addr} {xnk xrk xzk : Nat} {la : Option Addr} {lk : Nat} {w : World} (hx : Fct.at w D (.gn (gCt (d + 1) c (.slice xna 1 xnk) (.slice xra 1 xrk) (.slice xza c.parts.length xzk)))) (hl : Fct.at w D (.rw (.slice la 1 lk) 1 1 (wd (c.num - 1)))) (h1 : Fct.at w D (.ce g1 0 (.slice la 1 lk))) (h20 : Fct.at w D (.ce g2 0 (.slice xna 1 xnk))) (h21 : Fct.at w D (.ce g2 1 (.slice xra 1 xrk))) (h22 : Fct.at w D (.ce g2 2 (.slice xza c.parts.length xzk))) (hk0 : CtOk (d + 1) c) :
  Calls Tryz.prog 126 #[.slice xza c.parts.length xzk, .func (.func 127) #[] #[.pointer (some ⟨g1, 0, none⟩), .pointer (some ⟨g2, 0, none⟩)]] w fun e w' => e = .returned (.bool false) ∧ Below w.heap.size w w' := by
 have E0 := Zh (((((((Env.start D w).arg (.gn (gCt (d + 1) c (.slice xna 1 xnk) (.slice xra 1 xrk) (.slice xza c.parts.length xzk))) hx).arg (.rw (.slice la 1 lk) 1 1 (wd (c.num - 1))) hl).arg (.ce g1 0 (.slice la 1 lk)) h1).arg (.ce g2 0 (.slice xna 1 xnk)) h20).arg (.ce g2 1 (.slice xra 1 xrk)) h21).arg (.ce g2 2 (.slice xza c.parts.length xzk)) h22)
 clear hx hl h1 h20 h21 h22
 go_enter Tryz.func126, Tryz.ntmps126
 have hk := Zh hk0
 clear hk0
 go_wp2_with fail
 refine (cidx_g d c g1 g2 (E0.out.fc 5 rfl) (E0.out.fc 4 rfl) (E0.out.fc 3 rfl) (E0.out.fc 2 rfl) (E0.out.fc 1 rfl) (E0.out.fc 0 rfl) hk.out).mono ?_
 rintro e w1 ⟨rfl, hb⟩
 have E1 := Zh (E0.out.below hb)
 clear E0 hb
 have hfin := Zh E1.out.bel
 go_wp2
 go_ret
 exact ⟨rfl, hfin.out⟩
open Go.RowKit DivMath WordMath
def RightH (d : Nat) : Prop := ∀ (c : Ct) {xna xra xza : Option Addr} {xnk xrk xzk : Nat} {w : World}, Fct.at w (fun _ => True) (.gn (gCt d c (.slice xna 1 xnk) (.slice xra 1 xrk) (.slice xza c.parts.length xzk))) → CtOk d c → Calls Tryz.prog 100 #[.agg #[.slice xna 1 xnk, .slice xra 1 xrk, .slice xza c.parts.length xzk]] w fun e w' => e = .returned (.bool true) ∧ Below w.heap.size w w'
theorem wrapI_one {j k : Nat} (h : j + 1 = k) (h2 : k ≤ 1000) : IntKind.i64.wrap ((k : Int) - 1) = (j : Int) := by rw [IntKind.wrap_i64]; omega
theorem wrap64_one {j k : Nat} (h : j + 1 = k) (h2 : k ≤ 1000) : wrap64 ((k : Int) - 1) = (j : Int) := by rw [IntWalk.wrap64_in _ (by omega)]; omega
theorem right_s {D : Nat → Prop} (d : Nat) (c : Ct) {xna xra xza : Option Addr} {xnk xrk xzk : Nat} {w : World} (hx : Fct.at w D (.gn (gCt (d + 1) c (.slice xna 1 xnk) (.slice xra 1 xrk) (.slice xza c.parts.length xzk)))) (IHR0 : RightH d) (hk0 : CtOk (d + 1) c) :
  Calls Tryz.prog 100 #[.agg #[.slice xna 1 xnk, .slice xra 1 xrk, .slice xza c.parts.length xzk]] w fun e w' => e = .returned (.bool true) ∧ Below w.heap.size w w' := by
 have E0 := Zh ((Env.start D w).arg (.gn (gCt (d + 1) c (.slice xna 1 xnk) (.slice xra 1 xrk) (.slice xza c.parts.length xzk))) hx)
 clear hx
 go_enter Tryz.func100, Tryz.ntmps100
 have IHR := Zh IHR0
 have hk := Zh hk0
 clear IHR0 hk0
 obtain ⟨Nx, hNx⟩ : ∃ n, c.num = n := ⟨_, rfl⟩
 obtain ⟨Rx, hRx⟩ : ∃ n, c.root = n := ⟨_, rfl⟩
 obtain ⟨Lx, hLx⟩ : ∃ n, Nx - 1 = n := ⟨_, rfl⟩
 have HNx := Zh hNx
 have HRx := Zh hRx
 have HLx := Zh hLx
 have hkx := hk.out
 unfold CtOk at hkx
 rw [hNx, hRx, hLx] at hkx
 obtain ⟨⟨⟨j1, j2, j3⟩, j4, j5, j6, j7, j8, j9⟩, kp, kq, ks, ki, kn⟩ := hkx
 have E0b : Hid (Env D w [] [.rw (.slice xna 1 xnk) 1 1 (wd Nx), .rw (.slice xra 1 xrk) 1 1 (wd Rx), .gn (gCt (d + 1) c (.slice xna 1 xnk) (.slice xra 1 xrk) (.slice xza c.parts.length xzk))] w) := Zh (by have h1 := gCt.n (E0.out.fc 0 rfl); have h2 := gCt.r (E0.out.fc 0 rfl); rw [hNx] at h1; rw [hRx] at h2; exact (E0.out.note _ h2).note _ h1)
 clear E0
 have oN := Zh j1
 have oR := Zh j2
 have oL := Zh j3
 have hlt := Zh j4
 have hsub := Zh j6
 have hpw := Zh j7
 have KP := Zh kp
 have KQ := Zh kq
 have KS := Zh ks
 have KI := Zh ki
 obtain ⟨c1, hc1⟩ : ∃ c, Nn.NatMath.cmp Nx 2 = c := ⟨_, rfl⟩
 have t1 := cmp_ge' j5
 rw [hc1] at t1
 have C1 := Zh hc1
 obtain ⟨b1, hb1⟩ : ∃ b, Nn.NatMath.bl Nx = b := ⟨_, rfl⟩
 have t2 := bl_word j1
 rw [hb1] at t2
 have B1 := Zh hb1
 obtain ⟨b2, hb2⟩ : ∃ b, Nn.NatMath.bl Rx = b := ⟨_, rfl⟩
 have t3 := bl_some j2
 rw [hb2] at t3
 have B2 := Zh hb2
 have t4 : (b2 == 0) = false := by rw [beq_eq_false_iff_ne]; rw [beq_eq_false_iff_ne] at t3; omega
 obtain ⟨c2, hc2⟩ : ∃ c, Nn.NatMath.cmp Rx Nx = c := ⟨_, rfl⟩
 have t5 := cmp_lt' j4
 rw [hc2] at t5
 have C2 := Zh hc2
 have t6 : decide ((1024 : Int) < (b1 : Int)) = false := t2
 have t7 : decide (1024 < b1) = false := decide_eq_false (by rw [decide_eq_false_iff_not] at t2; omega)
 clear hc1 hb1 hb2 hc2 t2 j1 j2 j3 j4 j5 j6 j7 j8 j9 kp kq ks ki hNx hRx hLx
 go_wp2_with fail
 have E1 := Zh ((E0b.out.push 57 [.slice xna 1 xnk, .slice xra 1 xrk, .slice xza c.parts.length xzk] (w.heap.size) (by simp)))
 clear E0b
 generalize w.alloc (.cells #[.slice xna 1 xnk, .slice xra 1 xrk, .slice xza c.parts.length xzk] 57) = w1 at *
 have E2 := Zh E1.out.drew
 clear E1
 refine wp_regionU (S := fun w' => w'.cell? ⟨w.heap.size, 0, none⟩ = some (.slice xna 1 xnk) ∧ w'.cell? ⟨w.heap.size, 1, none⟩ = some (.slice xra 1 xrk)) [] (by kernel_rfl) (⟨((E2.out.bx 0 rfl).cell 0 rfl), ((E2.out.bx 0 rfl).cell 1 rfl)⟩) (fun hHeld => ?_)
 generalize w1.drew = w2 at *
 refine uPl [0, 1] ?_
 iterate 2 (refine uTl (v := ?_) ?_ ?_; rotate_left; (focus (intro wS hSw; (try dsimp only at hSw); go_simp; try with_reducible rfl)); try simp only [Act.put, pq0, pq1, pq2])
 refine Pl.z ?_
 refine uRd 2 (fun KK hKK => ?_)
 go_simp
 refine (valid1 oN.out (E2.out.fc 0 rfl)).mono ?_
 rintro e w3 ⟨rfl, hb⟩
 have E3 := Zh (E2.out.below hb)
 clear E2 hb
 (try dsimp only)
 clear hHeld
 refine hKK.out _ _ (⟨((E3.out.bx 0 rfl).cell 0 rfl), ((E3.out.bx 0 rfl).cell 1 rfl)⟩) (fun hHeld => ?_)
 clear hKK KK
 try simp only [Act.put, pq0, pq1, pq2]
 refine uPl [3, 4, 5, 6] ?_
 iterate 4 (refine uTl (v := ?_) ?_ ?_; rotate_left; (focus (intro wS hSw; (try dsimp only at hSw); go_simp; try with_reducible rfl)); try simp only [Act.put, pq0, pq1, pq2])
 refine Pl.z ?_
 refine uRd 7 (fun KK hKK => ?_)
 go_simp
 refine (valid1 oR.out (E3.out.fc 1 rfl)).mono ?_
 rintro e w4 ⟨rfl, hb⟩
 have E4 := Zh (E3.out.below hb)
 clear E3 hb
 (try dsimp only)
 clear hHeld
 refine hKK.out _ _ (⟨((E4.out.bx 0 rfl).cell 0 rfl), ((E4.out.bx 0 rfl).cell 1 rfl)⟩) (fun hHeld => ?_)
 clear hKK KK
 try simp only [Act.put, pq0, pq1, pq2]
 refine uPl [8, 9, 10, 11, 12] ?_
 iterate 5 (refine uTl (v := ?_) ?_ ?_; rotate_left; (focus (intro wS hSw; (try dsimp only at hSw); go_simp; try with_reducible rfl)); try simp only [Act.put, pq0, pq1, pq2])
 refine Pl.z ?_
 refine uRd 13 (fun KK hKK => ?_)
 go_simp
 refine (bits1 B1.out oN.out (E4.out.fc 0 rfl)).mono ?_
 rintro e w5 ⟨rfl, hb⟩
 have E5 := Zh (E4.out.below hb)
 clear E4 hb
 (try dsimp only)
 clear hHeld
 refine hKK.out _ _ (⟨((E5.out.bx 0 rfl).cell 0 rfl), ((E5.out.bx 0 rfl).cell 1 rfl)⟩) (fun hHeld => ?_)
 clear hKK KK
 try simp only [Act.put, pq0, pq1, pq2]
 refine uPl [14, 15, 16, 17, 18] ?_
 iterate 5 (refine uTl (v := ?_) ?_ ?_; rotate_left; (focus (intro wS hSw; (try dsimp only at hSw); go_simp; try with_reducible rfl)); try simp only [Act.put, pq0, pq1, pq2])
 refine Pl.z ?_
 refine uRd 19 (fun KK hKK => ?_)
 go_simp
 refine (nat1 2 ⟨by decide, by decide⟩).mono ?_
 rintro e w6 ⟨⟨oa, ok, rfl, oh⟩, hb⟩
 have E6 := Zh (E5.out.got (E5.out.below hb) (.rw (.slice oa 1 ok) 1 1 (wd 2)) (Zh (Rw.ge oh.out)).out)
 clear E5 hb
 (try dsimp only)
 clear hHeld
 refine hKK.out _ _ (⟨((E6.out.bx 0 rfl).cell 0 rfl), ((E6.out.bx 0 rfl).cell 1 rfl)⟩) (fun hHeld => ?_)
 clear hKK KK
 try simp only [Act.put, pq0, pq1, pq2]
 refine uRd 20 (fun KK hKK => ?_)
 go_simp
 refine (cmp1 C1.out oN.out ⟨by decide, by decide⟩ (E6.out.fc 1 rfl) (E6.out.fc 0 rfl)).mono ?_
 rintro e w7 ⟨rfl, hb⟩
 have E7 := Zh (E6.out.below hb)
 clear E6 hb
 (try dsimp only)
 clear hHeld
 refine hKK.out _ _ (⟨((E7.out.bx 0 rfl).cell 0 rfl), ((E7.out.bx 0 rfl).cell 1 rfl)⟩) (fun hHeld => ?_)
 clear hKK KK
 try simp only [Act.put, pq0, pq1, pq2]
 refine uPl [21, 22] ?_
 iterate 2 (refine uTl (v := ?_) ?_ ?_; rotate_left; (focus (intro wS hSw; (try dsimp only at hSw); go_simp; try with_reducible rfl)); try simp only [Act.put, pq0, pq1, pq2])
 refine Pl.z ?_
 refine uDone (by kernel_rfl) ?_ _
 have b1 := E7.out.bx 0 rfl
 have c1_1 := b1.cell 1 rfl
 clear b1
 go_wp2_with fail
 refine (bits1 B2.out oR.out (E7.out.fc 2 rfl)).mono ?_
 rintro e w8 ⟨rfl, hb⟩
 have E8 := Zh (E7.out.below hb)
 clear c1_1 E7 hb
 have b2 := E8.out.bx 0 rfl
 have c2_1 := b2.cell 1 rfl
 clear b2
 have b3 := E8.out.bx 0 rfl
 have c3_0 := b3.cell 0 rfl
 clear b3
 go_wp2_with fail
 refine (cmp1 C2.out oR.out oN.out (E8.out.fc 2 rfl) (E8.out.fc 1 rfl)).mono ?_
 rintro e w9 ⟨rfl, hb⟩
 have E9 := Zh (E8.out.below hb)
 clear c2_1 c3_0 E8 hb
 go_upto_region 5 with (fail)
 go_cut [3, 4] (fun s3 s4 wx => ∃ bg ia ik la lk, s3 = .pointer (some ⟨bg, 0, none⟩) ∧ s4 = .int .i64 0 ∧ Hid (Env D w [(bg, 24, [.slice la 1 lk]), (w.heap.size, 57, [.slice xna 1 xnk, .slice xra 1 xrk, .slice xza c.parts.length xzk])] [.rw (.slice la 1 lk) 1 1 (wd Lx), .rw (.slice ia 1 ik) 1 1 (wd 1), .rw (.slice oa 1 ok) 1 1 (wd 2), .rw (.slice xna 1 xnk) 1 1 (wd Nx), .rw (.slice xra 1 xrk) 1 1 (wd Rx), .gn (gCt (d + 1) c (.slice xna 1 xnk) (.slice xra 1 xrk) (.slice xza c.parts.length xzk))] wx))
 case first =>
  have E10 := Zh E9.out.drew
  clear E9
  refine wp_regionU (S := fun w' => w'.cell? ⟨w.heap.size, 0, none⟩ = some (.slice xna 1 xnk)) [] (by kernel_rfl) (((E10.out.bx 0 rfl).cell 0 rfl)) (fun hHeld => ?_)
  generalize w9.drew = w10 at *
  refine uPl [0, 1] ?_
  iterate 2 (refine uTl (v := ?_) ?_ ?_; rotate_left; (focus (intro wS hSw; (try dsimp only at hSw); go_simp; try with_reducible rfl)); try simp only [Act.put, pq0, pq1, pq2])
  refine Pl.z ?_
  refine uReady (rs := [2, 7]) (by kernel_rfl) (by simp) ?_
  refine (ReadyU.cons rfl (fun KK hKK => ?_) (ReadyU.cons rfl (fun KK hKK => ?_) ReadyU.nil))
  ·skip
   go_simp
   refine (nat1 1 ⟨by decide, by decide⟩).mono ?_
   rintro e w11 ⟨⟨ia, ik, rfl, ih⟩, hb⟩
   have E11 := Zh (E10.out.got (E10.out.below hb) (.rw (.slice ia 1 ik) 1 1 (wd 1)) (Zh (Rw.ge ih.out)).out)
   clear E10 hb
   (try dsimp only)
   clear hHeld
   refine hKK.out _ _ (((E11.out.bx 0 rfl).cell 0 rfl)) (fun hHeld => ?_)
   clear hKK KK
   try simp only [Act.put, pq0, pq1, pq2]
   refine uReady (rs := [3, 7]) (by kernel_rfl) (by simp) ?_
   refine (ReadyU.cons rfl (fun KK hKK => ?_) (ReadyU.cons rfl (fun KK hKK => ?_) ReadyU.nil))
   ·skip
    go_simp
    refine (sub1 hsub.out oL.out oN.out ⟨by decide, by decide⟩ (E11.out.fc 2 rfl) (E11.out.fc 0 rfl)).mono ?_
    rintro e w12 ⟨⟨la, lk, rfl, lh⟩, hb⟩
    have E12 := Zh (E11.out.got (E11.out.below hb) (.rw (.slice la 1 lk) 1 1 (wd Lx)) (Zh (Rw.ge lh.out)).out)
    clear E11 hb
    (try dsimp only)
    clear hHeld
    refine hKK.out _ _ (((E12.out.bx 0 rfl).cell 0 rfl)) (fun hHeld => ?_)
    clear hKK KK
    try simp only [Act.put, pq0, pq1, pq2]
    refine uPl [4, 5, 6] ?_
    iterate 3 (refine uTl (v := ?_) ?_ ?_; rotate_left; (focus (intro wS hSw; (try dsimp only at hSw); go_simp; try with_reducible rfl)); try simp only [Act.put, pq0, pq1, pq2])
    refine Pl.z ?_
    refine uRd 7 (fun KK hKK => ?_)
    go_simp
    have E13 := Zh ((E12.out.push 24 [.slice none 0 0] (w12.heap.size) (by simp)))
    (try dsimp only)
    clear hHeld
    refine hKK.out _ _ (((E13.out.bx 1 rfl).cell 0 rfl)) (fun hHeld => ?_)
    clear hKK KK
    try simp only [Act.put, pq0, pq1, pq2]
    clear E12
    generalize w12.alloc (.cells #[.slice none 0 0] 24) = w13 at *
    have b4 := E13.out.bx 0 rfl
    have c4_0 := b4.cell 0 rfl
    have f4_0 := b4.frozen 0
    clear b4
    refine uRd 8 (fun KK hKK => ?_)
    go_simp
    have E14 : Hid (Env D w [(w12.heap.size, 24, [.slice la 1 lk]), (w.heap.size, 57, [.slice xna 1 xnk, .slice xra 1 xrk, .slice xza c.parts.length xzk])] [.rw (.slice la 1 lk) 1 1 (wd Lx), .rw (.slice ia 1 ik) 1 1 (wd 1), .rw (.slice oa 1 ok) 1 1 (wd 2), .rw (.slice xna 1 xnk) 1 1 (wd Nx), .rw (.slice xra 1 xrk) 1 1 (wd Rx), .gn (gCt (d + 1) c (.slice xna 1 xnk) (.slice xra 1 xrk) (.slice xza c.parts.length xzk))] _) := Zh ((E13.out.set 0 0 (.slice la 1 lk) rfl))
    (try dsimp only)
    clear hHeld
    refine hKK.out _ _ (((E14.out.bx 1 rfl).cell 0 rfl)) (fun hHeld => ?_)
    clear hKK KK
    try simp only [Act.put, pq0, pq1, pq2]
    refine uTk (i := 9) (some 4) (v := ?_) ?_ ?_
    rotate_left
    ·(intro wS hSw; (try dsimp only at hSw); go_simp; try with_reducible rfl)
    try simp only [Act.put, pq0, pq1, pq2]
    refine uDone (by kernel_rfl) ?_ _
    go_wp2_with fail
    go_meet
    exact ⟨w12.heap.size, ia, ik, la, lk, rfl, rfl, Zh E14.out⟩
   ·skip
    go_simp
    have E12 := Zh ((E11.out.push 24 [.slice none 0 0] (w11.heap.size) (by simp)))
    (try dsimp only)
    clear hHeld
    refine hKK.out _ _ (((E12.out.bx 1 rfl).cell 0 rfl)) (fun hHeld => ?_)
    clear hKK KK
    try simp only [Act.put, pq0, pq1, pq2]
    clear E11
    generalize w11.alloc (.cells #[.slice none 0 0] 24) = w12 at *
    refine uRd 3 (fun KK hKK => ?_)
    go_simp
    refine (sub1 hsub.out oL.out oN.out ⟨by decide, by decide⟩ (E12.out.fc 2 rfl) (E12.out.fc 0 rfl)).mono ?_
    rintro e w13 ⟨⟨la, lk, rfl, lh⟩, hb⟩
    have E13 := Zh (E12.out.got (E12.out.below hb) (.rw (.slice la 1 lk) 1 1 (wd Lx)) (Zh (Rw.ge lh.out)).out)
    clear E12 hb
    (try dsimp only)
    clear hHeld
    refine hKK.out _ _ (((E13.out.bx 1 rfl).cell 0 rfl)) (fun hHeld => ?_)
    clear hKK KK
    try simp only [Act.put, pq0, pq1, pq2]
    refine uPl [4, 5, 6] ?_
    iterate 3 (refine uTl (v := ?_) ?_ ?_; rotate_left; (focus (intro wS hSw; (try dsimp only at hSw); go_simp; try with_reducible rfl)); try simp only [Act.put, pq0, pq1, pq2])
    refine Pl.z ?_
    have b4 := E13.out.bx 0 rfl
    have c4_0 := b4.cell 0 rfl
    have f4_0 := b4.frozen 0
    clear b4
    refine uRd 8 (fun KK hKK => ?_)
    go_simp
    have E14 : Hid (Env D w [(w11.heap.size, 24, [.slice la 1 lk]), (w.heap.size, 57, [.slice xna 1 xnk, .slice xra 1 xrk, .slice xza c.parts.length xzk])] [.rw (.slice la 1 lk) 1 1 (wd Lx), .rw (.slice ia 1 ik) 1 1 (wd 1), .rw (.slice oa 1 ok) 1 1 (wd 2), .rw (.slice xna 1 xnk) 1 1 (wd Nx), .rw (.slice xra 1 xrk) 1 1 (wd Rx), .gn (gCt (d + 1) c (.slice xna 1 xnk) (.slice xra 1 xrk) (.slice xza c.parts.length xzk))] _) := Zh ((E13.out.set 0 0 (.slice la 1 lk) rfl))
    (try dsimp only)
    clear hHeld
    refine hKK.out _ _ (((E14.out.bx 1 rfl).cell 0 rfl)) (fun hHeld => ?_)
    clear hKK KK
    try simp only [Act.put, pq0, pq1, pq2]
    refine uTk (i := 9) (some 4) (v := ?_) ?_ ?_
    rotate_left
    ·(intro wS hSw; (try dsimp only at hSw); go_simp; try with_reducible rfl)
    try simp only [Act.put, pq0, pq1, pq2]
    refine uDone (by kernel_rfl) ?_ _
    go_wp2_with fail
    go_meet
    exact ⟨w11.heap.size, ia, ik, la, lk, rfl, rfl, Zh E14.out⟩
  ·skip
   go_simp
   have E11 := Zh ((E10.out.push 24 [.slice none 0 0] (w10.heap.size) (by simp)))
   (try dsimp only)
   clear hHeld
   refine hKK.out _ _ (((E11.out.bx 1 rfl).cell 0 rfl)) (fun hHeld => ?_)
   clear hKK KK
   try simp only [Act.put, pq0, pq1, pq2]
   clear E10
   generalize w10.alloc (.cells #[.slice none 0 0] 24) = w11 at *
   refine uRd 2 (fun KK hKK => ?_)
   go_simp
   refine (nat1 1 ⟨by decide, by decide⟩).mono ?_
   rintro e w12 ⟨⟨ia, ik, rfl, ih⟩, hb⟩
   have E12 := Zh (E11.out.got (E11.out.below hb) (.rw (.slice ia 1 ik) 1 1 (wd 1)) (Zh (Rw.ge ih.out)).out)
   clear E11 hb
   (try dsimp only)
   clear hHeld
   refine hKK.out _ _ (((E12.out.bx 1 rfl).cell 0 rfl)) (fun hHeld => ?_)
   clear hKK KK
   try simp only [Act.put, pq0, pq1, pq2]
   refine uRd 3 (fun KK hKK => ?_)
   go_simp
   refine (sub1 hsub.out oL.out oN.out ⟨by decide, by decide⟩ (E12.out.fc 2 rfl) (E12.out.fc 0 rfl)).mono ?_
   rintro e w13 ⟨⟨la, lk, rfl, lh⟩, hb⟩
   have E13 := Zh (E12.out.got (E12.out.below hb) (.rw (.slice la 1 lk) 1 1 (wd Lx)) (Zh (Rw.ge lh.out)).out)
   clear E12 hb
   (try dsimp only)
   clear hHeld
   refine hKK.out _ _ (((E13.out.bx 1 rfl).cell 0 rfl)) (fun hHeld => ?_)
   clear hKK KK
   try simp only [Act.put, pq0, pq1, pq2]
   refine uPl [4, 5, 6] ?_
   iterate 3 (refine uTl (v := ?_) ?_ ?_; rotate_left; (focus (intro wS hSw; (try dsimp only at hSw); go_simp; try with_reducible rfl)); try simp only [Act.put, pq0, pq1, pq2])
   refine Pl.z ?_
   have b4 := E13.out.bx 0 rfl
   have c4_0 := b4.cell 0 rfl
   have f4_0 := b4.frozen 0
   clear b4
   refine uRd 8 (fun KK hKK => ?_)
   go_simp
   have E14 : Hid (Env D w [(w10.heap.size, 24, [.slice la 1 lk]), (w.heap.size, 57, [.slice xna 1 xnk, .slice xra 1 xrk, .slice xza c.parts.length xzk])] [.rw (.slice la 1 lk) 1 1 (wd Lx), .rw (.slice ia 1 ik) 1 1 (wd 1), .rw (.slice oa 1 ok) 1 1 (wd 2), .rw (.slice xna 1 xnk) 1 1 (wd Nx), .rw (.slice xra 1 xrk) 1 1 (wd Rx), .gn (gCt (d + 1) c (.slice xna 1 xnk) (.slice xra 1 xrk) (.slice xza c.parts.length xzk))] _) := Zh ((E13.out.set 0 0 (.slice la 1 lk) rfl))
   (try dsimp only)
   clear hHeld
   refine hKK.out _ _ (((E14.out.bx 1 rfl).cell 0 rfl)) (fun hHeld => ?_)
   clear hKK KK
   try simp only [Act.put, pq0, pq1, pq2]
   refine uTk (i := 9) (some 4) (v := ?_) ?_ ?_
   rotate_left
   ·(intro wS hSw; (try dsimp only at hSw); go_simp; try with_reducible rfl)
   try simp only [Act.put, pq0, pq1, pq2]
   refine uDone (by kernel_rfl) ?_ _
   go_wp2_with fail
   go_meet
   exact ⟨w10.heap.size, ia, ik, la, lk, rfl, rfl, Zh E14.out⟩
 case rest =>
  obtain ⟨bg, ia, ik, la, lk, rfl, rfl, E15⟩ := hcut
  clear E9
  go_wp2_with fail
  refine (nat1 1 ⟨by decide, by decide⟩).mono ?_
  rintro e w14 ⟨⟨ua, uk, rfl, uh⟩, hb⟩
  have E16 := Zh (E15.out.got (E15.out.below hb) (.rw (.slice ua 1 uk) 1 1 (wd 1)) (Zh (Rw.ge uh.out)).out)
  clear E15 hb
  have E17 := Zh ((E16.out.push 24 [.slice ua 1 uk] (w14.heap.size) (by simp)))
  have b5 := E17.out.bx 2 rfl
  have c5_2 := b5.cell 2 rfl
  clear b5
  go_wp2_with fail
  clear c5_2 E16
  generalize w14.alloc (.cells #[.slice ua 1 uk] 24) = w15 at *
  go_loopg [56] (c.parts.length) (fun gk s56 wr => ∃ (k P : Nat) (pa : Option Addr) (pk : Nat), s56 = .int .i64 (k : Int) ∧ Hid (Env D w [(w14.heap.size, 24, [.slice pa 1 pk]), (bg, 24, [.slice la 1 lk]), (w.heap.size, 57, [.slice xna 1 xnk, .slice xra 1 xrk, .slice xza c.parts.length xzk])] [.rw (.slice pa 1 pk) 1 1 (wd P), .rw (.slice la 1 lk) 1 1 (wd Lx), .rw (.slice ia 1 ik) 1 1 (wd 1), .rw (.slice oa 1 ok) 1 1 (wd 2), .rw (.slice xna 1 xnk) 1 1 (wd Nx), .rw (.slice xra 1 xrk) 1 1 (wd Rx), .gn (gCt (d + 1) c (.slice xna 1 xnk) (.slice xra 1 xrk) (.slice xza c.parts.length xzk))] wr) ∧ Hid ((k ≤ c.parts.length ∧ gk = c.parts.length - k) ∧ P = c.pr k))
  case atStart => exact ⟨0, 1, ua, uk, rfl, Zh E17.out, Zh ⟨⟨Nat.zero_le _, rfl⟩, rfl⟩⟩
  case round =>
   clear E17
   obtain ⟨k, P, pa, pk, rfl, EL, HA⟩ := hrel
   obtain ⟨⟨a1, a2⟩, a3⟩ := HA.out
   have HP := Zh a3
   clear HA a3
   by_cases hy : k = c.parts.length
   rotate_left
   ·have hk9 : k < c.parts.length := by omega
    have HK := Zh hk9
    have v6 : decide ((k : Int) < (c.parts.length : Int)) = true := decide_eq_true (by omega)
    have v6n : decide (k < c.parts.length) = true := decide_eq_true (by omega)
    clear hy
    obtain ⟨M, hM⟩ : ∃ m, c.parts[k].num = m := ⟨_, rfl⟩
    have HMn := Zh hM
    have HKO : Hid (CtOk d c.parts[k]) := Zh (KI.out k hk9)
    have oP : Hid (One P) := Zh (by rw [HP.out]; exact (KQ.out k (Nat.le_of_lt hk9)).1)
    have oM : Hid (One M) := Zh (by rw [← hM]; have h := HKO.out; revert h; cases d with | zero => intro h; cases h | succ d => intro h; exact h.1.1.1)
    obtain ⟨P2, hP2⟩ : ∃ x, P * M = x := ⟨_, rfl⟩
    have e2 : P2 = c.pr (k + 1) := by rw [← hP2, HP.out, Ct.pr_succ hk9]; exact congrArg (c.pr k * ·) hM.symm
    have hle : P2 ≤ Lx := by rw [e2]; exact (KQ.out (k + 1) hk9).2
    have oP2 : Hid (One P2) := Zh (by rw [e2]; exact (KQ.out (k + 1) hk9).1)
    obtain ⟨c4, hc4⟩ : ∃ c, Nn.NatMath.cmp P2 Lx = c := ⟨_, rfl⟩
    have t8 := cmp_gt hle
    rw [hc4] at t8
    have C4 := Zh hc4
    have HP2 := Zh hP2
    have HE2 := Zh e2
    clear hc4 hP2 e2 hle HP hM
    go_upto_region 11 with (fail)
    obtain ⟨xzb, xzo, rfl⟩ := gCt.addr (EL.out.fc 6 rfl) (by omega)
    by_cases hk0 : k = 0
    ·skip
     have v8 : decide ((0 : Int) < (k : Int)) = false := decide_eq_false (by omega)
     have v9 : decide (0 < k) = false := decide_eq_false (by omega)
     clear hk0
     obtain ⟨yna, ynk, yra, yrk, yza, yzk, E180⟩ := EL.out.elCt 6 rfl (k) hk9
     have E18 : Hid (Env D w [(w14.heap.size, 24, [.slice pa 1 pk]), (bg, 24, [.slice la 1 lk]), (w.heap.size, 57, [.slice xna 1 xnk, .slice xra 1 xrk, .slice (some ⟨xzb, xzo, none⟩) c.parts.length xzk])] [.ce xzb (xzo + k * 3) (.slice yna 1 ynk), .ce xzb (xzo + k * 3 + 1) (.slice yra 1 yrk), .ce xzb (xzo + k * 3 + 2) (.slice yza c.parts[k].parts.length yzk), .gn (gCt d c.parts[k] (.slice yna 1 ynk) (.slice yra 1 yrk) (.slice yza c.parts[k].parts.length yzk)), .rw (.slice pa 1 pk) 1 1 (wd P), .rw (.slice la 1 lk) 1 1 (wd Lx), .rw (.slice ia 1 ik) 1 1 (wd 1), .rw (.slice oa 1 ok) 1 1 (wd 2), .rw (.slice xna 1 xnk) 1 1 (wd Nx), .rw (.slice xra 1 xrk) 1 1 (wd Rx), .gn (gCt (d + 1) c (.slice xna 1 xnk) (.slice xra 1 xrk) (.slice (some ⟨xzb, xzo, none⟩) c.parts.length xzk))] _) := Zh E180
     clear E180 EL
     have q0 := (E18.out.fc 0 rfl).2
     have q1 := (E18.out.fc 1 rfl).2
     have q2 := (E18.out.fc 2 rfl).2
     go_wp2_with fail
     have E19 := Zh ((E18.out.push 57 [.slice yna 1 ynk, .slice yra 1 yrk, .slice yza c.parts[k].parts.length yzk] (wr.heap.size) (by simp)))
     clear q0 q1 q2 E18
     generalize wr.alloc (.cells #[.slice yna 1 ynk, .slice yra 1 yrk, .slice yza c.parts[k].parts.length yzk] 57) = w16 at *
     have E20 := Zh E19.out.drew
     clear E19
     refine wp_regionU (S := fun w' => w'.cell? ⟨wr.heap.size, 0, none⟩ = some (.slice yna 1 ynk) ∧ w'.cell? ⟨wr.heap.size, 1, none⟩ = some (.slice yra 1 yrk) ∧ w'.cell? ⟨wr.heap.size, 2, none⟩ = some (.slice yza c.parts[k].parts.length yzk)) [] (by kernel_rfl) (⟨((E20.out.bx 0 rfl).cell 0 rfl), ((E20.out.bx 0 rfl).cell 1 rfl), ((E20.out.bx 0 rfl).cell 2 rfl)⟩) (fun hHeld => ?_)
     generalize w16.drew = w17 at *
     refine uTk (i := 0) (some 61) (v := ?_) ?_ ?_
     rotate_left
     ·(intro wS hSw; (try dsimp only at hSw); go_simp; try with_reducible rfl)
     try simp only [Act.put, pq0, pq1, pq2]
     refine uRd 1 (fun KK hKK => ?_)
     go_simp
     refine (IHR.out c.parts[k] (gCt.any (E20.out.fc 3 rfl)) HKO.out).mono ?_
     rintro e w18 ⟨rfl, hb⟩
     have E21 := Zh (E20.out.below hb)
     clear E20 hb
     (try dsimp only)
     clear hHeld
     refine hKK.out _ _ (⟨((E21.out.bx 0 rfl).cell 0 rfl), ((E21.out.bx 0 rfl).cell 1 rfl), ((E21.out.bx 0 rfl).cell 2 rfl)⟩) (fun hHeld => ?_)
     clear hKK KK
     try simp only [Act.put, pq0, pq1, pq2]
     refine uPl [2, 3, 4, 5, 6] ?_
     iterate 5 (refine uTl (v := ?_) ?_ ?_; rotate_left; (focus (intro wS hSw; (try dsimp only at hSw); go_simp; try with_reducible rfl)); try simp only [Act.put, pq0, pq1, pq2])
     refine Pl.z ?_
     refine uPs (i := 7) (some 68) ?_
     try simp only [Act.put, pq0, pq1, pq2]
     refine uPs (i := 8) (some 69) ?_
     try simp only [Act.put, pq0, pq1, pq2]
     refine uPs (i := 9) (some 70) ?_
     try simp only [Act.put, pq0, pq1, pq2]
     refine uPs (i := 10) (some 71) ?_
     try simp only [Act.put, pq0, pq1, pq2]
     refine uPs (i := 11) (some 72) ?_
     try simp only [Act.put, pq0, pq1, pq2]
     refine uPs (i := 12) (some 73) ?_
     try simp only [Act.put, pq0, pq1, pq2]
     refine uPs (i := 13) (some 74) ?_
     try simp only [Act.put, pq0, pq1, pq2]
     refine uPs (i := 14) (some 75) ?_
     try simp only [Act.put, pq0, pq1, pq2]
     refine uPs (i := 15) (some 76) ?_
     try simp only [Act.put, pq0, pq1, pq2]
     refine uPs (i := 16) (some 77) ?_
     try simp only [Act.put, pq0, pq1, pq2]
     refine uPs (i := 17) (some 78) ?_
     try simp only [Act.put, pq0, pq1, pq2]
     refine uPl [18, 19] ?_
     iterate 2 (refine uTl (v := ?_) ?_ ?_; rotate_left; (focus (intro wS hSw; (try dsimp only at hSw); go_simp; try with_reducible rfl)); try simp only [Act.put, pq0, pq1, pq2])
     refine Pl.z ?_
     refine uDone (by kernel_rfl) ?_ _
     have b6 := E21.out.bx 1 rfl
     have c6_0 := b6.cell 0 rfl
     clear b6
     have b7 := E21.out.bx 0 rfl
     have c7_0 := b7.cell 0 rfl
     clear b7
     go_wp2_with fail
     refine (mul1 HP2.out oP2.out oP.out oM.out (E21.out.fc 4 rfl) (by have h := gCt.n (E21.out.fc 3 rfl); rw [HMn.out] at h; exact h)).mono ?_
     rintro e w19 ⟨⟨ma, mk, rfl, mh⟩, hb⟩
     have E22 := Zh (E21.out.got (E21.out.below hb) (.rw (.slice ma 1 mk) 1 1 (wd P2)) (Zh (Rw.ge mh.out)).out)
     clear c6_0 c7_0 E21 hb
     have b8 := E22.out.bx 1 rfl
     have c8_0 := b8.cell 0 rfl
     have f8_0 := b8.frozen 0
     clear b8
     have E23 : Hid (Env D w [(wr.heap.size, 57, [.slice yna 1 ynk, .slice yra 1 yrk, .slice yza c.parts[k].parts.length yzk]), (w14.heap.size, 24, [.slice ma 1 mk]), (bg, 24, [.slice la 1 lk]), (w.heap.size, 57, [.slice xna 1 xnk, .slice xra 1 xrk, .slice (some ⟨xzb, xzo, none⟩) c.parts.length xzk])] [.rw (.slice ma 1 mk) 1 1 (wd P2), .ce xzb (xzo + k * 3) (.slice yna 1 ynk), .ce xzb (xzo + k * 3 + 1) (.slice yra 1 yrk), .ce xzb (xzo + k * 3 + 2) (.slice yza c.parts[k].parts.length yzk), .gn (gCt d c.parts[k] (.slice yna 1 ynk) (.slice yra 1 yrk) (.slice yza c.parts[k].parts.length yzk)), .rw (.slice pa 1 pk) 1 1 (wd P), .rw (.slice la 1 lk) 1 1 (wd Lx), .rw (.slice ia 1 ik) 1 1 (wd 1), .rw (.slice oa 1 ok) 1 1 (wd 2), .rw (.slice xna 1 xnk) 1 1 (wd Nx), .rw (.slice xra 1 xrk) 1 1 (wd Rx), .gn (gCt (d + 1) c (.slice xna 1 xnk) (.slice xra 1 xrk) (.slice (some ⟨xzb, xzo, none⟩) c.parts.length xzk))] _) := Zh ((E22.out.set 1 0 (.slice ma 1 mk) rfl))
     have b9 := E23.out.bx 2 rfl
     have c9_0 := b9.cell 0 rfl
     clear b9
     go_wp2_with fail
     refine (cmp1 C4.out oP2.out oL.out (E23.out.fc 0 rfl) (E23.out.fc 6 rfl)).mono ?_
     rintro e w20 ⟨rfl, hb⟩
     have E24 := Zh (E23.out.below hb)
     clear c8_0 f8_0 c9_0 E22 E23 hb
     have hZ := (E24.out.drop)
     have EZ : Hid (Env D w [(w14.heap.size, 24, [.slice ma 1 mk]), (bg, 24, [.slice la 1 lk]), (w.heap.size, 57, [.slice xna 1 xnk, .slice xra 1 xrk, .slice (some ⟨xzb, xzo, none⟩) c.parts.length xzk])] [.rw (.slice ma 1 mk) 1 1 (wd P2), .rw (.slice la 1 lk) 1 1 (wd Lx), .rw (.slice ia 1 ik) 1 1 (wd 1), .rw (.slice oa 1 ok) 1 1 (wd 2), .rw (.slice xna 1 xnk) 1 1 (wd Nx), .rw (.slice xra 1 xrk) 1 1 (wd Rx), .gn (gCt (d + 1) c (.slice xna 1 xnk) (.slice xra 1 xrk) (.slice (some ⟨xzb, xzo, none⟩) c.parts.length xzk))] _) := Zh ⟨hZ.bel, hZ.box, ⟨hZ.fc 0 rfl, ⟨hZ.fc 6 rfl, ⟨hZ.fc 7 rfl, ⟨hZ.fc 8 rfl, ⟨hZ.fc 9 rfl, ⟨hZ.fc 10 rfl, ⟨hZ.fc 11 rfl, trivial⟩⟩⟩⟩⟩⟩⟩⟩
     clear hZ
     go_wp2
     go_roundg (c.parts.length - (k + 1))
     case rel => exact ⟨k + 1, P2, ma, mk, rfl, EZ, Zh ⟨⟨by have := HK.out; omega, rfl⟩, HE2.out⟩⟩
     case measure => have := HK.out; omega
    ·skip
     obtain ⟨j, hj⟩ : ∃ j, j + 1 = k := ⟨k - 1, by omega⟩
     have hj9 : j < c.parts.length := by omega
     have wz := wrapI_one hj (by omega)
     have wy := wrap64_one hj (by omega)
     have v8 : decide ((0 : Int) < (k : Int)) = true := decide_eq_true (by omega)
     have v9 : decide (0 < k) = true := decide_eq_true (by omega)
     have hsrt : c.parts[j].num ≤ M := by have h := KS.out j (by omega); rw [← HMn.out]; simp only [hj] at h; exact h
     obtain ⟨c3, hc3⟩ : ∃ q, Nn.NatMath.cmp c.parts[j].num M = q := ⟨_, rfl⟩
     have t9 := cmp_gt hsrt
     rw [hc3] at t9
     have C3 := Zh hc3
     have HJ := Zh hj9
     have oJ : Hid (One c.parts[j].num) := Zh (by have h := KI.out j hj9; revert h; cases d with | zero => intro h; cases h | succ d => intro h; exact h.1.1.1)
     clear hc3 hsrt hj hk0
     obtain ⟨vna, vnk, vra, vrk, vza, vzk, E180⟩ := EL.out.elCt 6 rfl (j) HJ.out
     have E18 : Hid (Env D w [(w14.heap.size, 24, [.slice pa 1 pk]), (bg, 24, [.slice la 1 lk]), (w.heap.size, 57, [.slice xna 1 xnk, .slice xra 1 xrk, .slice (some ⟨xzb, xzo, none⟩) c.parts.length xzk])] [.ce xzb (xzo + j * 3) (.slice vna 1 vnk), .ce xzb (xzo + j * 3 + 1) (.slice vra 1 vrk), .ce xzb (xzo + j * 3 + 2) (.slice vza c.parts[j].parts.length vzk), .gn (gCt d c.parts[j] (.slice vna 1 vnk) (.slice vra 1 vrk) (.slice vza c.parts[j].parts.length vzk)), .rw (.slice pa 1 pk) 1 1 (wd P), .rw (.slice la 1 lk) 1 1 (wd Lx), .rw (.slice ia 1 ik) 1 1 (wd 1), .rw (.slice oa 1 ok) 1 1 (wd 2), .rw (.slice xna 1 xnk) 1 1 (wd Nx), .rw (.slice xra 1 xrk) 1 1 (wd Rx), .gn (gCt (d + 1) c (.slice xna 1 xnk) (.slice xra 1 xrk) (.slice (some ⟨xzb, xzo, none⟩) c.parts.length xzk))] _) := Zh E180
     clear E180 EL
     have r0 := (E18.out.fc 0 rfl).2
     obtain ⟨yna, ynk, yra, yrk, yza, yzk, E190⟩ := E18.out.elCt 10 rfl (k) hk9
     have E19 : Hid (Env D w [(w14.heap.size, 24, [.slice pa 1 pk]), (bg, 24, [.slice la 1 lk]), (w.heap.size, 57, [.slice xna 1 xnk, .slice xra 1 xrk, .slice (some ⟨xzb, xzo, none⟩) c.parts.length xzk])] [.ce xzb (xzo + k * 3) (.slice yna 1 ynk), .ce xzb (xzo + k * 3 + 1) (.slice yra 1 yrk), .ce xzb (xzo + k * 3 + 2) (.slice yza c.parts[k].parts.length yzk), .gn (gCt d c.parts[k] (.slice yna 1 ynk) (.slice yra 1 yrk) (.slice yza c.parts[k].parts.length yzk)), .ce xzb (xzo + j * 3) (.slice vna 1 vnk), .ce xzb (xzo + j * 3 + 1) (.slice vra 1 vrk), .ce xzb (xzo + j * 3 + 2) (.slice vza c.parts[j].parts.length vzk), .gn (gCt d c.parts[j] (.slice vna 1 vnk) (.slice vra 1 vrk) (.slice vza c.parts[j].parts.length vzk)), .rw (.slice pa 1 pk) 1 1 (wd P), .rw (.slice la 1 lk) 1 1 (wd Lx), .rw (.slice ia 1 ik) 1 1 (wd 1), .rw (.slice oa 1 ok) 1 1 (wd 2), .rw (.slice xna 1 xnk) 1 1 (wd Nx), .rw (.slice xra 1 xrk) 1 1 (wd Rx), .gn (gCt (d + 1) c (.slice xna 1 xnk) (.slice xra 1 xrk) (.slice (some ⟨xzb, xzo, none⟩) c.parts.length xzk))] _) := Zh E190
     clear E190 E18
     have q0 := (E19.out.fc 0 rfl).2
     have q1 := (E19.out.fc 1 rfl).2
     have q2 := (E19.out.fc 2 rfl).2
     go_wp2_with fail
     have E20 := Zh ((E19.out.push 57 [.slice yna 1 ynk, .slice yra 1 yrk, .slice yza c.parts[k].parts.length yzk] (wr.heap.size) (by simp)))
     clear r0 q0 q1 q2 E19
     generalize wr.alloc (.cells #[.slice yna 1 ynk, .slice yra 1 yrk, .slice yza c.parts[k].parts.length yzk] 57) = w16 at *
     have E21 := Zh E20.out.drew
     clear E20
     refine wp_regionU (S := fun w' => w'.cell? ⟨wr.heap.size, 0, none⟩ = some (.slice yna 1 ynk) ∧ w'.cell? ⟨wr.heap.size, 1, none⟩ = some (.slice yra 1 yrk) ∧ w'.cell? ⟨wr.heap.size, 2, none⟩ = some (.slice yza c.parts[k].parts.length yzk) ∧ w'.cell? ⟨w.heap.size, 2, none⟩ = some (.slice (some ⟨xzb, xzo, none⟩) c.parts.length xzk) ∧ w'.cell? ⟨xzb, (xzo + j * 3), none⟩ = some (.slice vna 1 vnk)) [] (by kernel_rfl) (⟨((E21.out.bx 0 rfl).cell 0 rfl), ((E21.out.bx 0 rfl).cell 1 rfl), ((E21.out.bx 0 rfl).cell 2 rfl), ((E21.out.bx 3 rfl).cell 2 rfl), (E21.out.fc 4 rfl).2⟩) (fun hHeld => ?_)
     generalize w16.drew = w17 at *
     refine uTk (i := 0) (some 61) (v := ?_) ?_ ?_
     rotate_left
     ·(intro wS hSw; (try dsimp only at hSw); go_simp; try with_reducible rfl)
     try simp only [Act.put, pq0, pq1, pq2]
     refine uRd 1 (fun KK hKK => ?_)
     go_simp
     refine (IHR.out c.parts[k] (gCt.any (E21.out.fc 3 rfl)) HKO.out).mono ?_
     rintro e w18 ⟨rfl, hb⟩
     have E22 := Zh (E21.out.below hb)
     clear E21 hb
     (try dsimp only)
     clear hHeld
     refine hKK.out _ _ (⟨((E22.out.bx 0 rfl).cell 0 rfl), ((E22.out.bx 0 rfl).cell 1 rfl), ((E22.out.bx 0 rfl).cell 2 rfl), ((E22.out.bx 3 rfl).cell 2 rfl), (E22.out.fc 4 rfl).2⟩) (fun hHeld => ?_)
     clear hKK KK
     try simp only [Act.put, pq0, pq1, pq2]
     refine uPl [2, 3, 4, 5, 6, 7, 8, 9, 10, 11, 12, 13, 14, 15] ?_
     iterate 14 (refine uTl (v := ?_) ?_ ?_; rotate_left; (focus (intro wS hSw; (try dsimp only at hSw); go_simp; try with_reducible rfl)); try simp only [Act.put, pq0, pq1, pq2])
     refine Pl.z ?_
     refine uRd 16 (fun KK hKK => ?_)
     go_simp
     refine (cmp1 C3.out oJ.out oM.out (gCt.n (E22.out.fc 7 rfl)) (by have h := gCt.n (E22.out.fc 3 rfl); rw [HMn.out] at h; exact h)).mono ?_
     rintro e w19 ⟨rfl, hb⟩
     have E23 := Zh (E22.out.below hb)
     clear E22 hb
     (try dsimp only)
     clear hHeld
     refine hKK.out _ _ (⟨((E23.out.bx 0 rfl).cell 0 rfl), ((E23.out.bx 0 rfl).cell 1 rfl), ((E23.out.bx 0 rfl).cell 2 rfl), ((E23.out.bx 3 rfl).cell 2 rfl), (E23.out.fc 4 rfl).2⟩) (fun hHeld => ?_)
     clear hKK KK
     try simp only [Act.put, pq0, pq1, pq2]
     refine uPl [17, 18, 19] ?_
     iterate 3 (refine uTl (v := ?_) ?_ ?_; rotate_left; (focus (intro wS hSw; (try dsimp only at hSw); go_simp; try with_reducible rfl)); try simp only [Act.put, pq0, pq1, pq2])
     refine Pl.z ?_
     refine uDone (by kernel_rfl) ?_ _
     have b6 := E23.out.bx 1 rfl
     have c6_0 := b6.cell 0 rfl
     clear b6
     have b7 := E23.out.bx 0 rfl
     have c7_0 := b7.cell 0 rfl
     clear b7
     go_wp2_with fail
     refine (mul1 HP2.out oP2.out oP.out oM.out (E23.out.fc 8 rfl) (by have h := gCt.n (E23.out.fc 3 rfl); rw [HMn.out] at h; exact h)).mono ?_
     rintro e w20 ⟨⟨ma, mk, rfl, mh⟩, hb⟩
     have E24 := Zh (E23.out.got (E23.out.below hb) (.rw (.slice ma 1 mk) 1 1 (wd P2)) (Zh (Rw.ge mh.out)).out)
     clear c6_0 c7_0 E23 hb
     have b8 := E24.out.bx 1 rfl
     have c8_0 := b8.cell 0 rfl
     have f8_0 := b8.frozen 0
     clear b8
     have E25 : Hid (Env D w [(wr.heap.size, 57, [.slice yna 1 ynk, .slice yra 1 yrk, .slice yza c.parts[k].parts.length yzk]), (w14.heap.size, 24, [.slice ma 1 mk]), (bg, 24, [.slice la 1 lk]), (w.heap.size, 57, [.slice xna 1 xnk, .slice xra 1 xrk, .slice (some ⟨xzb, xzo, none⟩) c.parts.length xzk])] [.rw (.slice ma 1 mk) 1 1 (wd P2), .ce xzb (xzo + k * 3) (.slice yna 1 ynk), .ce xzb (xzo + k * 3 + 1) (.slice yra 1 yrk), .ce xzb (xzo + k * 3 + 2) (.slice yza c.parts[k].parts.length yzk), .gn (gCt d c.parts[k] (.slice yna 1 ynk) (.slice yra 1 yrk) (.slice yza c.parts[k].parts.length yzk)), .ce xzb (xzo + j * 3) (.slice vna 1 vnk), .ce xzb (xzo + j * 3 + 1) (.slice vra 1 vrk), .ce xzb (xzo + j * 3 + 2) (.slice vza c.parts[j].parts.length vzk), .gn (gCt d c.parts[j] (.slice vna 1 vnk) (.slice vra 1 vrk) (.slice vza c.parts[j].parts.length vzk)), .rw (.slice pa 1 pk) 1 1 (wd P), .rw (.slice la 1 lk) 1 1 (wd Lx), .rw (.slice ia 1 ik) 1 1 (wd 1), .rw (.slice oa 1 ok) 1 1 (wd 2), .rw (.slice xna 1 xnk) 1 1 (wd Nx), .rw (.slice xra 1 xrk) 1 1 (wd Rx), .gn (gCt (d + 1) c (.slice xna 1 xnk) (.slice xra 1 xrk) (.slice (some ⟨xzb, xzo, none⟩) c.parts.length xzk))] _) := Zh ((E24.out.set 1 0 (.slice ma 1 mk) rfl))
     have b9 := E25.out.bx 2 rfl
     have c9_0 := b9.cell 0 rfl
     clear b9
     go_wp2_with fail
     refine (cmp1 C4.out oP2.out oL.out (E25.out.fc 0 rfl) (E25.out.fc 10 rfl)).mono ?_
     rintro e w21 ⟨rfl, hb⟩
     have E26 := Zh (E25.out.below hb)
     clear c8_0 f8_0 c9_0 E24 E25 hb
     have hZ := (E26.out.drop)
     have EZ : Hid (Env D w [(w14.heap.size, 24, [.slice ma 1 mk]), (bg, 24, [.slice la 1 lk]), (w.heap.size, 57, [.slice xna 1 xnk, .slice xra 1 xrk, .slice (some ⟨xzb, xzo, none⟩) c.parts.length xzk])] [.rw (.slice ma 1 mk) 1 1 (wd P2), .rw (.slice la 1 lk) 1 1 (wd Lx), .rw (.slice ia 1 ik) 1 1 (wd 1), .rw (.slice oa 1 ok) 1 1 (wd 2), .rw (.slice xna 1 xnk) 1 1 (wd Nx), .rw (.slice xra 1 xrk) 1 1 (wd Rx), .gn (gCt (d + 1) c (.slice xna 1 xnk) (.slice xra 1 xrk) (.slice (some ⟨xzb, xzo, none⟩) c.parts.length xzk))] _) := Zh ⟨hZ.bel, hZ.box, ⟨hZ.fc 0 rfl, ⟨hZ.fc 10 rfl, ⟨hZ.fc 11 rfl, ⟨hZ.fc 12 rfl, ⟨hZ.fc 13 rfl, ⟨hZ.fc 14 rfl, ⟨hZ.fc 15 rfl, trivial⟩⟩⟩⟩⟩⟩⟩⟩
     clear hZ
     go_wp2
     go_roundg (c.parts.length - (k + 1))
     case rel => exact ⟨k + 1, P2, ma, mk, rfl, EZ, Zh ⟨⟨by have := HK.out; omega, rfl⟩, HE2.out⟩⟩
     case measure => have := HK.out; omega
   have v6 : decide ((k : Int) < (c.parts.length : Int)) = false := decide_eq_false (by omega)
   have v6n : decide (k < c.parts.length) = false := decide_eq_false (by omega)
   have hPL : P = Lx := by rw [HP.out, hy]; exact KP.out
   clear hy
   subst hPL
   clear HP
   have b6 := EL.out.bx 0 rfl
   have c6_0 := b6.cell 0 rfl
   clear b6
   have b7 := EL.out.bx 1 rfl
   have c7_0 := b7.cell 0 rfl
   clear b7
   go_wp2_with fail
   refine (cmp1 (cmp_self _) oL.out oL.out (EL.out.fc 0 rfl) (EL.out.fc 1 rfl)).mono ?_
   rintro e w16 ⟨rfl, hb⟩
   have E18 := Zh (EL.out.below hb)
   clear c6_0 c7_0 EL hb
   have b8 := E18.out.bx 2 rfl
   have c8_0 := b8.cell 0 rfl
   have c8_1 := b8.cell 1 rfl
   have c8_2 := b8.cell 2 rfl
   clear b8
   have b9 := E18.out.bx 1 rfl
   have c9_0 := b9.cell 0 rfl
   clear b9
   go_wp2_with fail
   refine (one1 Nx Rx P (Fct.any (E18.out.fc 4 rfl)) (Fct.any (E18.out.fc 5 rfl)) (Fct.any (E18.out.fc 1 rfl)) 1 hpw.out ⟨by decide, by decide⟩ oN.out oR.out oL.out hlt.out rfl).mono ?_
   rintro e w17 ⟨rfl, hb⟩
   have E19 := Zh (E18.out.below hb)
   clear c8_0 c8_1 c8_2 c9_0 E18 hb
   have b10 := E19.out.bx 2 rfl
   have c10_2 := b10.cell 2 rfl
   clear b10
   go_wp2_with fail
   refine (ccon_g d c (bg) (w.heap.size) (gCt.any (E19.out.fc 6 rfl)) (by rw [HNx.out, HLx.out]; exact Fct.any (E19.out.fc 1 rfl)) ⟨⟨(E19.out.bx 1 rfl).lt, trivial⟩, (E19.out.bx 1 rfl).cell 0 rfl⟩ ⟨⟨(E19.out.bx 2 rfl).lt, trivial⟩, (E19.out.bx 2 rfl).cell 0 rfl⟩ ⟨⟨(E19.out.bx 2 rfl).lt, trivial⟩, (E19.out.bx 2 rfl).cell 1 rfl⟩ ⟨⟨(E19.out.bx 2 rfl).lt, trivial⟩, (E19.out.bx 2 rfl).cell 2 rfl⟩ hk.out).mono ?_
   rintro e w18 ⟨rfl, hb⟩
   have E20 := Zh (E19.out.below hb)
   clear c10_2 E19 hb
   have hfin := Zh E20.out.bel
   go_wp2
   go_ret
   exact ⟨rfl, hfin.out⟩
theorem right_g : ∀ d, RightH d
 | 0, c, _, _, _, _, _, _, _, _, h => by cases h
 | d + 1, c, _, _, _, _, _, _, w, hx, hk => right_s d c hx (right_g d) hk
theorem Verify_g {D : Nat → Prop} (d : Nat) (c : Ct) {xna xra xza : Option Addr} {xnk xrk xzk : Nat} {w : World} (hx : Fct.at w D (.gn (gCt d c (.slice xna 1 xnk) (.slice xra 1 xrk) (.slice xza c.parts.length xzk)))) (s : Nat) (hs0 : Ct.sz d c = s) (h1 : s ≤ 1000) (h0 : 0 < s) (hk0 : CtOk d c) :
  Calls Tryz.prog 65 #[.agg #[.slice xna 1 xnk, .slice xra 1 xrk, .slice xza c.parts.length xzk]] w fun e w' => e = .returned (.bool true) ∧ Below w.heap.size w w' := by
 have E0 := Zh ((Env.start D w).arg (.gn (gCt d c (.slice xna 1 xnk) (.slice xra 1 xrk) (.slice xza c.parts.length xzk))) hx)
 clear hx
 go_enter Tryz.func65, Tryz.ntmps65
 have hs := Zh hs0
 have hk := Zh hk0
 clear hs0 hk0
 have t1 : decide ((0 : Int) < (s : Int)) = true := decide_eq_true (by omega)
 have t2 : decide (0 < s) = true := decide_eq_true h0
 go_wp2_with fail
 have E1 := Zh ((E0.out.push 57 [.slice xna 1 xnk, .slice xra 1 xrk, .slice xza c.parts.length xzk] (w.heap.size) (by simp)))
 refine (Size_g d c (E1.out.fc 0 rfl) s hs.out h1 hk.out).mono ?_
 rintro e w1 ⟨rfl, hb⟩
 have E2 := Zh (E1.out.below hb)
 clear E0 E1 hb
 have b1 := E2.out.bx 0 rfl
 have c1_0 := b1.cell 0 rfl
 have c1_1 := b1.cell 1 rfl
 have c1_2 := b1.cell 2 rfl
 clear b1
 go_wp2_with fail
 refine (right_g d c (gCt.any (E2.out.fc 0 rfl)) hk.out).mono ?_
 rintro e w2 ⟨rfl, hb⟩
 have E3 := Zh (E2.out.below hb)
 clear c1_0 c1_1 c1_2 E2 hb
 have hfin := Zh E3.out.bel
 go_wp2
 go_ret
 exact ⟨rfl, hfin.out⟩
open Go.RowKit DivMath WordMath
theorem Tryz.infoCert : (Tryz.prog.info? 57).map (fun i => (i.zero, i.size, i.bytes)) = some (some (Value.agg #[.slice none 0 0, .slice none 0 0, .slice none 0 0]), 3, 72) := by kernel_rfl
theorem tiC : TI 55 57 3 := .ofInfo Tryz.underlying55 Tryz.infoCert rfl (by omega) (by omega)
/-- cells read as certificates -/
def gCl (d : Nat) (hs : List Value) (ps : List Ct) : GF where
 at_ w D := hs.length = ps.length * 3 ∧ ∀ i (h : i < ps.length), ∃ u v z, hs[i * 3]? = some u ∧ hs[i * 3 + 1]? = some v ∧ hs[i * 3 + 2]? = some z ∧ CtAt d w D ps[i] u v z
 turn h hs hD hc := ⟨h.1, fun i hi => by obtain ⟨u, v, z, e1, e2, e3, h4⟩ := h.2 i hi; exact ⟨u, v, z, e1, e2, e3, CtAt.turn hs hD hc h4⟩⟩
theorem ctGe {f : Fct} {W : World} {P : Nat → Prop} {B : Nat} (h : Fct.at W (fun b => B ≤ b) f) : Fct.at W (fun b => P b ∨ B ≤ b) f := Fct.turn h (Nat.le_refl _) (fun _ _ h => .inr h) (fun _ _ _ _ => rfl)
def OC (sg : List Bx) (cs : List Value) (v : Value) (hs : List Value) (n : Nat) : Prop := OS 57 3 sg cs v n ∧ cs.take (n * 3) = hs
section
variable {D0 D : Nat → Prop} {w W : World} {F sg : List Bx} {G : List Fct} {d n : Nat} {c p : Ct} {u v z : Value} {hs cs : List Value} {ps : List Ct}
theorem gCl.nil : (gCl d [] []).at_ W D := ⟨rfl, fun i h => by simp at h⟩
theorem gCl.app (h : (gCl d hs ps).at_ W D) (hp : Fct.at W D (.gn (gCt d p u v z))) : (gCl d (hs ++ [u, v, z]) (ps ++ [p])).at_ W D := by
 have h0 : hs.length = ps.length * 3 := h.1
 refine ⟨by rw [List.length_append, List.length_append, h0]; simp only [List.length_cons, List.length_nil]; omega, fun i hi => ?_⟩
 by_cases e : i < ps.length
 ·obtain ⟨u', v', z', e1, e2, e3, h4⟩ := h.2 i e
  refine ⟨u', v', z', ?_, ?_, ?_, ?_⟩
  ·rw [List.getElem?_append_left (by omega)]; exact e1
  ·rw [List.getElem?_append_left (by omega)]; exact e2
  ·rw [List.getElem?_append_left (by omega)]; exact e3
  ·rw [List.getElem_append_left e]; exact h4
 ·have e2 : i = ps.length := by simp only [List.length_append, List.length_cons, List.length_nil] at hi; omega
  subst e2
  refine ⟨u, v, z, ?_, ?_, ?_, ?_⟩
  ·rw [List.getElem?_append_right (by omega), show ps.length * 3 - hs.length = 0 by omega]; rfl
  ·rw [List.getElem?_append_right (by omega), show ps.length * 3 + 1 - hs.length = 1 by omega]; rfl
  ·rw [List.getElem?_append_right (by omega), show ps.length * 3 + 2 - hs.length = 2 by omega]; rfl
  ·rw [List.getElem_append_right (Nat.le_refl _)]; simp; exact hp
theorem OC.nil : OC [] [] (.slice none 0 0) [] 0 := ⟨.inl ⟨rfl, rfl, rfl, rfl⟩, rfl⟩
theorem OC.len (h : OC sg cs v hs n) : ∃ a k, v = .slice a n k := h.1.len
/-- the certificate that the walk hands back -/
theorem Env.outCt {va na ra : Option Addr} {vk nk rk : Nat} (E : Env (fun _ => False) w F G W) (hO : OC sg cs (.slice va n vk) hs n) (hsg : ∀ q ∈ sg, q ∈ F) (hn : n = c.parts.length) (i : Nat) (e : G[i]? = some (.gn (gCl d hs c.parts))) (j : Nat) (e2 : G[j]? = some (.rw (.slice na 1 nk) 1 1 (wd c.num))) (l : Nat) (e3 : G[l]? = some (.rw (.slice ra 1 rk) 1 1 (wd c.root))) :
  Fct.at W (fun b => w.heap.size ≤ b) (.gn (gCt (d + 1) c (.slice na 1 nk) (.slice ra 1 rk) (.slice va n vk))) := by
 have f1 := Rw.from2 (E.out j e2)
 have f2 := Rw.from2 (E.out l e3)
 have hl : (gCl d hs c.parts).at_ W (fun b => False ∨ w.heap.size ≤ b) := E.out i e
 subst hn
 obtain ⟨h1, h2⟩ := hO
 refine ⟨⟨_, _, rfl⟩, f1, ⟨_, _, rfl⟩, f2, va, vk, rfl, ?_⟩
 rcases h1 with ⟨rfl, rfl, e4, h0⟩ | ⟨g, cap, rfl, e4, k1, k2, k3⟩
 ·simp only [Value.slice.injEq] at e4
  obtain ⟨_, _, e6⟩ := e4
  exact ⟨by omega, by omega, fun hne => absurd (List.length_eq_zero_iff.1 h0) hne⟩
 ·simp only [Value.slice.injEq, true_and] at e4
  obtain ⟨rfl, rfl⟩ := e4
  refine ⟨k1, k2, fun _ => ⟨g, 0, rfl, ?_, fun t ht => ?_⟩⟩
  ·have hB := (held_iff.1 E.box).1 (g, 57, cs) (hsg _ (by simp))
   exact ⟨hB.lt, hB.1⟩
  ·have hB := (held_iff.1 E.box).1 (g, 57, cs) (hsg _ (by simp))
   obtain ⟨u, v, z, q1, q2, q3, q4⟩ := hl.2 t ht
   have tk : ∀ (m : Nat) (x : Value), hs[m]? = some x → cs[m]? = some x := by
    intro m x hm
    rw [← h2, List.getElem?_take] at hm
    split at hm
    ·exact hm
    ·cases hm
   refine ⟨u, v, z, ?_, ?_, ?_, CtAt.turn (Nat.le_refl _) (fun b _ h => h.resolve_left id) (fun _ _ _ _ => rfl) q4⟩
   ·rw [Nat.zero_add]; exact hB.cell _ (tk _ _ q1)
   ·rw [Nat.zero_add]; exact hB.cell _ (tk _ _ q2)
   ·rw [Nat.zero_add]; exact hB.cell _ (tk _ _ q3)
theorem Env.outCt2 {va na ra : Option Addr} {vk nk rk Nx Rx : Nat} (E : Env (fun _ => False) w F G W) (hO : OC sg cs (.slice va n vk) hs n) (hsg : ∀ q ∈ sg, q ∈ F) (hn : n = c.parts.length) (hN : c.num = Nx) (hR : c.root = Rx) (i : Nat) (e : G[i]? = some (.gn (gCl d hs (c.parts.take n)))) (j : Nat) (e2 : G[j]? = some (.rw (.slice na 1 nk) 1 1 (wd Nx))) (l : Nat) (e3 : G[l]? = some (.rw (.slice ra 1 rk) 1 1 (wd Rx))) :
  Fct.at W (fun b => w.heap.size ≤ b) (.gn (gCt (d + 1) c (.slice na 1 nk) (.slice ra 1 rk) (.slice va n vk))) := by
 subst hN hR
 rw [show c.parts.take n = c.parts from by rw [hn, List.take_length]] at e
 exact Env.outCt E hO hsg hn i e j e2 l e3
end
def CertH (d : Nat) : Prop := ∀ (c : Ct) {w : World}, Laid w → CtDo d c → Calls Tryz.prog 31 #[.int .i64 (c.num : Nat)] w fun e w' => (∃ xna xnk xra xrk xza xzk, e = .returned (.tuple #[.agg #[.slice xna 1 xnk, .slice xra 1 xrk, .slice xza c.parts.length xzk], .int .i64 0]) ∧ Hid (Fct.at w' (fun b => w.heap.size ≤ b) (.gn (gCt d c (.slice xna 1 xnk) (.slice xra 1 xrk) (.slice xza c.parts.length xzk))))) ∧ Below w.heap.size w w'
theorem Certify_s (d : Nat) (c : Ct) (Nx Rx : Nat) (l : List Nat) {w : World}  (hl0 : Laid w) (IH0 : CertH d) (hN0 : c.num = Nx) (hR0 : c.root = Rx) (hL0 : c.parts.map Ct.num = l) (kx0 : Dok Nx Rx l) (ki0 : ∀ i (h : i < c.parts.length), CtDo d c.parts[i]) (hp0 : c.parts.length ≤ 100) :
  Calls Tryz.prog 31 #[.int .i64 (Nx : Nat)] w fun e w' => (∃ xna xnk xra xrk xza xzk, e = .returned (.tuple #[.agg #[.slice xna 1 xnk, .slice xra 1 xrk, .slice xza c.parts.length xzk], .int .i64 0]) ∧ Hid (Fct.at w' (fun b => w.heap.size ≤ b) (.gn (gCt (d + 1) c (.slice xna 1 xnk) (.slice xra 1 xrk) (.slice xza c.parts.length xzk))))) ∧ Below w.heap.size w w' := by
 have E0 := Zh (Env.start (fun _ => False) w)
 go_enter Tryz.func31, Tryz.ntmps31
 have hl := Zh hl0
 have IH := Zh IH0
 have hN := Zh hN0
 have hR := Zh hR0
 have hL := Zh hL0
 have kx := Zh kx0
 have ki := Zh ki0
 clear hl0 IH0 hN0 hR0 hL0 kx0 ki0
 obtain ⟨⟨j1, j2⟩, j3, j4, j5, j6⟩ := kx.out
 have oN := Zh j1
 have oR := Zh j2
 have hT0 : (Nx : Int) < Top := by unfold Top; have := j1.2; omega
 have hT := Zh hT0
 have hn9 : (Nx : Int) ≤ 4294967295 := by have := j1.2; omega
 have hb := Zh (belowB_of j4 hT0)
 have hr := Zh j6
 have hg := Zh (fac_good j3 hT0 j5)
 have h2 := Zh j3
 obtain ⟨p1, hp1⟩ : ∃ p1, p1 = Nx - 1 := ⟨_, rfl⟩
 rw [← hp1] at j5
 have hf := Zh j5
 have e1 : (Nx : Int) - 1 = (p1 : Int) := by omega
 have h11 : 1 ≤ (p1 : Int) ∧ (p1 : Int) ≤ 2305843009213693951 := by omega
 clear j1 j2 j3 j4 j5 j6 hp1 hT0
 have hll : l.length = c.parts.length := by rw [← hL.out, List.length_map]
 have HLL := Zh hll
 have hl9 : l.length ≤ 100 := by omega
 have HP0 := Zh hp0
 clear hll hp0
 go_wp2_with fail
 have E1 := Zh ((E0.out.push 57 [.slice none 0 0, .slice none 0 0, .slice none 0 0] (w.heap.size) (by simp)))
 refine (below_c (Nx : Int) _ (hl.out.below E1.out.bel) (by omega) hb.out).mono ?_
 rintro e w1 ⟨rfl, hb⟩
 have E2 := Zh (E1.out.below hb)
 clear E0 E1 hb
 go_wp2_with fail
 refine (Fac_some (D := fun _ => False) p1 l (hl.out.below E2.out.bel) h11.1 h11.2 hf.out).mono ?_
 rintro e w2 ⟨⟨ya, yk, rfl, yh⟩, hb⟩
 have E3 := Zh (E2.out.got (E2.out.below hb) (.rw (.slice ya l.length yk) l.length 1 (ncl l)) (Zh (Rw.ge yh.out)).out)
 clear E2 hb
 go_wp2_with fail
 refine (nat1 Nx oN.out).mono ?_
 rintro e w3 ⟨⟨xna, xnk, rfl, xnh⟩, hb⟩
 have E4 := Zh (E3.out.got (E3.out.below hb) (.rw (.slice xna 1 xnk) 1 1 (wd Nx)) (Zh (Rw.ge xnh.out)).out)
 clear E3 hb
 go_wp2_with fail
 refine (root_c Nx Rx l (E4.out.fc 1 rfl) h2.out hT.out hg.out.2 hg.out.1 hr.out).mono ?_
 rintro e w4 ⟨rfl, hb⟩
 have E5 := Zh (E4.out.below hb)
 clear E4 hb
 go_wp2_with fail
 refine (nat1 Rx oR.out).mono ?_
 rintro e w5 ⟨⟨xra, xrk, rfl, xrh⟩, hb⟩
 have E6 := Zh (E5.out.got (E5.out.below hb) (.rw (.slice xra 1 xrk) 1 1 (wd Rx)) (Zh (Rw.ge xrh.out)).out)
 clear E5 hb
 go_wp2_with fail
 have E7 := Zh ((E6.out.push 57 [.slice xna 1 xnk, .slice xra 1 xrk, .slice none 0 0] (w5.heap.size) (by simp)))
 go_loopg [34] (l.length) (fun gk s34 wr => ∃ (k : Nat) (sg : List Bx) (cs : List Value) (va : Option Addr) (vk : Nat) (hs : List Value), s34 = .int .i64 (k : Int) ∧ Hid (Env (fun _ => False) w ((w5.heap.size, 57, [.slice xna 1 xnk, .slice xra 1 xrk, .slice va k vk]) :: (w.heap.size, 57, [.slice none 0 0, .slice none 0 0, .slice none 0 0]) :: sg) [.gn (gCl d hs (c.parts.take k)), .rw (.slice xra 1 xrk) 1 1 (wd Rx), .rw (.slice xna 1 xnk) 1 1 (wd Nx), .rw (.slice ya l.length yk) l.length 1 (ncl l)] wr) ∧ Hid (OC sg cs (.slice va k vk) hs k) ∧ Hid (k ≤ l.length ∧ gk = l.length - k))
 case atStart => exact ⟨0, [], [], none, 0, [], rfl, Zh ((E7.out.note (.gn (gCl d [] (c.parts.take 0))) gCl.nil).cast (by simp)), Zh OC.nil, Zh ⟨Nat.zero_le _, rfl⟩⟩
 case round =>
  clear E6 E7
  obtain ⟨k, sg, cs, va, vk, hs, rfl, EL, hO, HA⟩ := hrel
  obtain ⟨a1, a2⟩ := HA.out
  clear HA
  by_cases hy : k = l.length
  rotate_left
  ·have hk : k < l.length := by omega
   have HK := Zh (And.intro hk trivial)
   have t6 : decide ((k : Int) < (l.length : Int)) = true := decide_eq_true (by omega)
   have t6n : decide (k < l.length) = true := decide_eq_true (by omega)
   clear hy
   have hkp : k < c.parts.length := by rw [← HLL.out]; exact hk
   have hlk : c.parts[k].num = l[k] := by have h := hL.out; subst h; simp
   have HLK := Zh hlk
   clear hlk
   have HKP := Zh (And.intro hkp trivial)
   have hk1 : k + 1 ≤ 1000000 := by omega
   have HK1 := Zh hk1
   clear hk1
   go_upto_region 9 with (fail)
   obtain ⟨yab, yao, rfl⟩ := Rw.addr (EL.out.fc 3 rfl) (by omega)
   have E8 := Zh (EL.out.elN 3 rfl rfl (k) hk)
   clear EL
   have w90 := (E8.out.fc 0 rfl).2
   have KC := IH.out c.parts[k] (hl.out.below E8.out.bel) (ki.out k hkp)
   rw [HLK.out] at KC
   have KCH := Zh KC
   clear KC
   go_wp2_with fail
   refine (KCH.out).mono ?_
   rintro e w6 ⟨⟨una, unk, ura, urk, uza, uzk, rfl, uh⟩, hb⟩
   have E9 := Zh (E8.out.got (E8.out.below hb) (.gn (gCt d c.parts[k] (.slice una 1 unk) (.slice ura 1 urk) (.slice uza c.parts[k].parts.length uzk))) (Zh (ctGe uh.out)).out)
   clear w90 E8 hb
   clear KCH
   have E10 := Zh ((E9.out.push 57 [.slice una 1 unk, .slice ura 1 urk, .slice uza c.parts[k].parts.length uzk] (w6.heap.size) (by simp)))
   have b1 := E10.out.bx 1 rfl
   have c1_2 := b1.cell 2 rfl
   clear b1
   have b2 := E10.out.bx 0 rfl
   have c2_0 := b2.cell 0 rfl
   have c2_1 := b2.cell 1 rfl
   have c2_2 := b2.cell 2 rfl
   clear b2
   have E11 := Zh ((E10.out.push 57 [.slice una 1 unk, .slice ura 1 urk, .slice uza c.parts[k].parts.length uzk] (w6.heap.size + 1) (by simp)))
   go_wp2_with (at_builtin; refine wpl_app1 (c := 1) tiC rfl _ _ rfl E11.out (A := [(w6.heap.size + 1, 57, [.slice una 1 unk, .slice ura 1 urk, .slice uza c.parts[k].parts.length uzk]), (w6.heap.size, 57, [.slice una 1 unk, .slice ura 1 urk, .slice uza c.parts[k].parts.length uzk]), (w5.heap.size, 57, [.slice xna 1 xnk, .slice xra 1 xrk, .slice va k vk]), (w.heap.size, 57, [.slice none 0 0, .slice none 0 0, .slice none 0 0])]) (sg := sg) (B' := []) (F := ((w6.heap.size + 1, 57, [.slice una 1 unk, .slice ura 1 urk, .slice uza c.parts[k].parts.length uzk]) :: (w6.heap.size, 57, [.slice una 1 unk, .slice ura 1 urk, .slice uza c.parts[k].parts.length uzk]) :: (w5.heap.size, 57, [.slice xna 1 xnk, .slice xra 1 xrk, .slice va k vk]) :: (w.heap.size, 57, [.slice none 0 0, .slice none 0 0, .slice none 0 0]) :: sg)) (n := k) (by simp) hO.out.1 rfl rfl (SrcN.box (E11.out.bx 0 rfl) rfl (by intro u hu; simp at hu; rcases hu with rfl | rfl | rfl <;> rfl)) HK1.out ?_)
   intro tg tp tc w7 tH tT tE
   have tO : Hid (OS 57 3 [(tg, 57, tc)] tc (.slice (some ⟨tg, 0, none⟩) (k + 1) tp) (k + 1)) := Zh (.inr ⟨tg, tp, rfl, rfl, tH.out.1, tH.out.2.1, tH.out.2.2⟩)
   have tK : Hid (tc.take ((k + 1) * 3) = hs ++ [.slice una 1 unk, .slice ura 1 urk, .slice uza c.parts[k].parts.length uzk]) := Zh (by have h := tT.out; rw [hO.out.2] at h; exact h)
   have E12 : Hid (Env (fun _ => False) w ((w6.heap.size + 1, 57, [.slice una 1 unk, .slice ura 1 urk, .slice uza c.parts[k].parts.length uzk]) :: (w6.heap.size, 57, [.slice una 1 unk, .slice ura 1 urk, .slice uza c.parts[k].parts.length uzk]) :: (w5.heap.size, 57, [.slice xna 1 xnk, .slice xra 1 xrk, .slice va k vk]) :: (w.heap.size, 57, [.slice none 0 0, .slice none 0 0, .slice none 0 0]) :: [(tg, 57, tc)]) [.gn (gCl d (hs ++ [.slice una 1 unk, .slice ura 1 urk, .slice uza c.parts[k].parts.length uzk]) (c.parts.take (k + 1))), .gn (gCt d c.parts[k] (.slice una 1 unk) (.slice ura 1 urk) (.slice uza c.parts[k].parts.length uzk)), .ce yab (yao + k) (.int .i64 (l[k] : Nat)), .gn (gCl d hs (c.parts.take k)), .rw (.slice xra 1 xrk) 1 1 (wd Rx), .rw (.slice xna 1 xnk) 1 1 (wd Nx), .rw (.slice (some ⟨yab, yao, none⟩) l.length yk) l.length 1 (ncl l)] w7) := Zh (Env.cast (tE.out.note (.gn (gCl d (hs ++ [.slice una 1 unk, .slice ura 1 urk, .slice uza c.parts[k].parts.length uzk]) (c.parts.take (k + 1)))) (by rw [List.take_add_one, List.getElem?_eq_getElem HKP.out.1]; exact gCl.app (tE.out.fc 2 rfl) (tE.out.fc 0 rfl))) (by simp))
   clear c1_2 c2_0 c2_1 c2_2 E9 E10 E11 tE tH tT
   have b3 := E12.out.bx 2 rfl
   have c3_2 := b3.cell 2 rfl
   have f3_2 := b3.frozen 2
   clear b3
   have E13 : Hid (Env (fun _ => False) w ((w6.heap.size + 1, 57, [.slice una 1 unk, .slice ura 1 urk, .slice uza c.parts[k].parts.length uzk]) :: (w6.heap.size, 57, [.slice una 1 unk, .slice ura 1 urk, .slice uza c.parts[k].parts.length uzk]) :: (w5.heap.size, 57, [.slice xna 1 xnk, .slice xra 1 xrk, .slice (some ⟨tg, 0, none⟩) (k + 1) tp]) :: (w.heap.size, 57, [.slice none 0 0, .slice none 0 0, .slice none 0 0]) :: [(tg, 57, tc)]) [.gn (gCl d (hs ++ [.slice una 1 unk, .slice ura 1 urk, .slice uza c.parts[k].parts.length uzk]) (c.parts.take (k + 1))), .gn (gCt d c.parts[k] (.slice una 1 unk) (.slice ura 1 urk) (.slice uza c.parts[k].parts.length uzk)), .ce yab (yao + k) (.int .i64 (l[k] : Nat)), .gn (gCl d hs (c.parts.take k)), .rw (.slice xra 1 xrk) 1 1 (wd Rx), .rw (.slice xna 1 xnk) 1 1 (wd Nx), .rw (.slice (some ⟨yab, yao, none⟩) l.length yk) l.length 1 (ncl l)] _) := Zh ((E12.out.set 2 2 (.slice (some ⟨tg, 0, none⟩) (k + 1) tp) rfl))
   have hZ := E13.out.drop.drop
   have EZ : Hid (Env (fun _ => False) w ((w5.heap.size, 57, [.slice xna 1 xnk, .slice xra 1 xrk, .slice (some ⟨tg, 0, none⟩) (k + 1) tp]) :: (w.heap.size, 57, [.slice none 0 0, .slice none 0 0, .slice none 0 0]) :: [(tg, 57, tc)]) [.gn (gCl d (hs ++ [.slice una 1 unk, .slice ura 1 urk, .slice uza c.parts[k].parts.length uzk]) (c.parts.take (k + 1))), .rw (.slice xra 1 xrk) 1 1 (wd Rx), .rw (.slice xna 1 xnk) 1 1 (wd Nx), .rw (.slice (some ⟨yab, yao, none⟩) l.length yk) l.length 1 (ncl l)] _) := Zh ⟨hZ.bel, hZ.box, ⟨hZ.fc 0 rfl, ⟨hZ.fc 4 rfl, ⟨hZ.fc 5 rfl, ⟨hZ.fc 6 rfl, trivial⟩⟩⟩⟩⟩
   clear hZ
   go_wp2
   go_roundg (l.length - (k + 1))
   case rel => exact ⟨k + 1, [(tg, 57, tc)], tc, some ⟨tg, 0, none⟩, tp, _, rfl, EZ, Zh ⟨tO.out, tK.out⟩, Zh ⟨by have := HK.out.1; omega, rfl⟩⟩
   case measure => have := HK.out.1; omega
  have t6 : decide ((k : Int) < (l.length : Int)) = false := decide_eq_false (by omega)
  have t6n : decide (k < l.length) = false := decide_eq_false (by omega)
  have HE : Hid (k = c.parts.length) := Zh (by rw [hy, HLL.out])
  clear hy
  have b1 := EL.out.bx 0 rfl
  have c1_0 := b1.cell 0 rfl
  have c1_1 := b1.cell 1 rfl
  have c1_2 := b1.cell 2 rfl
  clear b1
  have b2 := EL.out.bx 1 rfl
  have c2_0 := b2.cell 0 rfl
  have c2_1 := b2.cell 1 rfl
  have c2_2 := b2.cell 2 rfl
  have f2_0 := b2.frozen 0
  have f2_1 := b2.frozen 1
  have f2_2 := b2.frozen 2
  clear b2
  go_wp2
  have E8 : Hid (Env (fun _ => False) w ((w5.heap.size, 57, [.slice xna 1 xnk, .slice xra 1 xrk, .slice va k vk]) :: (w.heap.size, 57, [.slice xna 1 xnk, .slice xra 1 xrk, .slice va k vk]) :: sg) [.gn (gCl d hs (c.parts.take k)), .rw (.slice xra 1 xrk) 1 1 (wd Rx), .rw (.slice xna 1 xnk) 1 1 (wd Nx), .rw (.slice ya l.length yk) l.length 1 (ncl l)] _) := Zh ((((EL.out.set 1 0 (.slice xna 1 xnk) rfl).set 1 1 (.slice xra 1 xrk) rfl).set 1 2 (.slice va k vk) rfl))
  have hfin := E8.out
  have q0 := (hfin.bx 1 rfl).cell 0 rfl
  have q1 := (hfin.bx 1 rfl).cell 1 rfl
  have q2 := (hfin.bx 1 rfl).cell 2 rfl
  have hout := Env.outCt2 hfin hO.out (by intro p hp; simp [hp]) HE.out hN.out hR.out 0 rfl 2 rfl 1 rfl
  exact bodyPost_ret (v := .tuple #[.agg #[.slice xna 1 xnk, .slice xra 1 xrk, .slice va k vk], .int .i64 0]) (by simp [results, Tryz.results31, go_sem, q0, q1, q2]) rfl ⟨⟨xna, xnk, xra, xrk, va, vk, by rw [HE.out], Zh (by rw [← HE.out]; exact hout)⟩, hfin.bel⟩
theorem Certify_g : ∀ d, CertH d
 | 0, c, _, _, h => by cases h
 | d + 1, c, w, hl, h => Certify_s d c c.num c.root _ hl (Certify_g d) rfl rfl rfl h.1 h.2.1 h.2.2
end Go.Proofs.YtikopkkebdobdaaGreatDoor

/- Certificates as trees; how they lie in memory. -/
import Derived.Test.YtikopkkebdobdaaGreatDoorVrU
import Derived.Test.YtikopkkebdobdaaGreatDoorVqE
namespace Go.Proofs.YtikopkkebdobdaaGreatDoor
open Go.RowKit DivMath WordMath
set_option linter.unusedVariables false
set_option linter.unusedSimpArgs false
/-- a factor's power of the root is not 1 -/
def PartOk (N R L M : Nat) : Prop := ∃ q S, L / M = q ∧ R ^ q % N = S ∧ One S ∧ One M ∧ One q ∧ S ≠ 1
/-- N's certificate is right: root R, L = N - 1, the parts' numbers -/
def Cok (N R L : Nat) (l : List Nat) : Prop := (One N ∧ One R ∧ One L) ∧ R < N ∧ 2 ≤ N ∧ N - 1 = L ∧ R ^ L % N = 1 ∧ l.foldl (· * ·) 1 = L ∧ ∀ M ∈ l, PartOk N R L M
/-- N passes the test, l are the factors of N - 1, R is the least root -/
def Dok (N R : Nat) (l : List Nat) : Prop := (One N ∧ One R) ∧ 2 ≤ N ∧ Pri.isP N = true ∧ Pri.facN (N - 1) = some l ∧ Pri.RootR N l R
inductive Ct where
  | mk (N R : Nat) (ps : List Ct)
def Ct.num : Ct → Nat
  | .mk N _ _ => N
def Ct.root : Ct → Nat
  | .mk _ R _ => R
def Ct.parts : Ct → List Ct
  | .mk _ _ ps => ps
/-- three cells are a certificate that reads as the tree -/
def CtAt : Nat → World → (Nat → Prop) → Ct → Value → Value → Value → Prop
  | 0, _, _, _, _, _, _ => False
  | d + 1, w, D, c, u, v, z => (∃ a k, u = .slice a 1 k) ∧ Rw w D u 1 1 (wd c.num) ∧ (∃ a k, v = .slice a 1 k) ∧ Rw w D v 1 1 (wd c.root) ∧
    ∃ (ao : Option Addr) (k : Nat), z = .slice ao c.parts.length k ∧ c.parts.length ≤ k ∧ k ≤ 9223372036854775807 ∧
      (c.parts ≠ [] → ∃ b off, ao = some ⟨b, off, none⟩ ∧ (b < w.heap.size ∧ D b) ∧ ∀ i (h : i < c.parts.length), ∃ u' v' z', w.cell? ⟨b, off + i * 3, none⟩ = some u' ∧ w.cell? ⟨b, off + i * 3 + 1, none⟩ = some v' ∧ w.cell? ⟨b, off + i * 3 + 2, none⟩ = some z' ∧ CtAt d w D c.parts[i] u' v' z')
theorem CtAt.turn {w w' : World} {D D' : Nat → Prop} (hs : w.heap.size ≤ w'.heap.size) (hD : ∀ b, b < w.heap.size → D b → D' b) (hc : ∀ b i, b < w.heap.size → D b → w'.cell? ⟨b, i, none⟩ = w.cell? ⟨b, i, none⟩) : ∀ {d : Nat} {c : Ct} {u v z : Value}, CtAt d w D c u v z → CtAt d w' D' c u v z
  | 0, _, _, _, _, h => h
  | d + 1, c, u, v, z, h => by
    obtain ⟨h1, h2, h3, h4, ao, k, h5, h6, h7, h8⟩ := h
    refine ⟨h1, Rw.turn h2 hs hD hc, h3, Rw.turn h4 hs hD hc, ao, k, h5, h6, h7, fun hp => ?_⟩
    obtain ⟨b, off, e, ⟨hb, hd⟩, hi⟩ := h8 hp
    refine ⟨b, off, e, ⟨Nat.lt_of_lt_of_le hb hs, hD b hb hd⟩, fun i hl => ?_⟩
    obtain ⟨u', v', z', e1, e2, e3, hc'⟩ := hi i hl
    exact ⟨u', v', z', (hc b _ hb hd).trans e1, (hc b _ hb hd).trans e2, (hc b _ hb hd).trans e3, CtAt.turn hs hD hc hc'⟩
def gCt (d : Nat) (c : Ct) (u v z : Value) : GF where
  at_ w D := CtAt d w D c u v z
  turn h hs hD hc := CtAt.turn hs hD hc h
section
variable {D0 D : Nat → Prop} {w W : World} {F : List Bx} {G : List Fct} {d : Nat} {c : Ct} {u v z : Value}
theorem CtAt.forms (h : CtAt d W D c u v z) : ∃ ua uk va vk za zk, u = .slice ua 1 uk ∧ v = .slice va 1 vk ∧ z = .slice za c.parts.length zk := by
  cases d with
  | zero => cases h
  | succ d =>
    obtain ⟨⟨ua, uk, h1⟩, _, ⟨va, vk, h3⟩, _, za, zk, h5, _⟩ := h
    exact ⟨ua, uk, va, vk, za, zk, h1, h3, h5⟩
theorem gCt.n (h : Fct.at W D (.gn (gCt d c u v z))) : Fct.at W D (.rw u 1 1 (wd c.num)) := by
  have h : CtAt d W D c u v z := h
  cases d with
  | zero => cases h
  | succ d => exact h.2.1
theorem gCt.r (h : Fct.at W D (.gn (gCt d c u v z))) : Fct.at W D (.rw v 1 1 (wd c.root)) := by
  have h : CtAt d W D c u v z := h
  cases d with
  | zero => cases h
  | succ d => exact h.2.2.2.1
theorem gCt.addr {xa : Option Addr} {n k : Nat} (h : Fct.at W D (.gn (gCt (d + 1) c u v (.slice xa n k)))) (hp : 0 < c.parts.length) : ∃ b off, xa = some ⟨b, off, none⟩ := by
  have h : CtAt (d + 1) W D c u v (.slice xa n k) := h
  obtain ⟨_, _, _, _, ao, k', e, _, _, h8⟩ := h
  cases e
  obtain ⟨b, off, e, _⟩ := h8 (fun e => by rw [e] at hp; cases hp)
  exact ⟨b, off, e⟩
theorem gCt.any (h : Fct.at W D (.gn (gCt d c u v z))) : Fct.at W (fun _ => True) (.gn (gCt d c u v z)) := Fct.any h
/-- element k of the parts -/
theorem Env.elCt {b o n k' : Nat} (h : Env D0 w F G W) (i : Nat) (e : G[i]? = some (.gn (gCt (d + 1) c u v (.slice (some ⟨b, o, none⟩) n k')))) (k : Nat) (hk : k < c.parts.length) :
    ∃ ua uk va vk za zk, Env D0 w F (.ce b (o + k * 3) (.slice ua 1 uk) :: .ce b (o + k * 3 + 1) (.slice va 1 vk) :: .ce b (o + k * 3 + 2) (.slice za c.parts[k].parts.length zk) :: .gn (gCt d c.parts[k] (.slice ua 1 uk) (.slice va 1 vk) (.slice za c.parts[k].parts.length zk)) :: G) W := by
  have hm : CtAt (d + 1) W (DF D0 w.heap.size F) c u v (.slice (some ⟨b, o, none⟩) n k') := h.fct.get i e
  obtain ⟨_, _, _, _, ao, k2, e2, _, _, h8⟩ := hm
  cases e2
  obtain ⟨b', off', e3, hb, hi⟩ := h8 (fun e => by rw [e] at hk; cases hk)
  simp only [Option.some.injEq, Addr.mk.injEq, and_true] at e3
  obtain ⟨rfl, rfl⟩ := e3
  obtain ⟨u', v', z', e1, e2, e3, hc⟩ := hi k hk
  obtain ⟨ua, uk, va, vk, za, zk, rfl, rfl, rfl⟩ := hc.forms
  exact ⟨ua, uk, va, vk, za, zk, (((h.note (.gn (gCt d _ _ _ _)) hc).note (.ce _ _ _) ⟨hb, e3⟩).note (.ce _ _ _) ⟨hb, e2⟩).note (.ce _ _ _) ⟨hb, e1⟩⟩
end
/-- the product of the first k parts -/
def Ct.pr (c : Ct) : Nat → Nat
  | 0 => 1
  | k + 1 => c.pr k * ((c.parts.map Ct.num).getD k 1)
/-- the certificate is right, in all its parts -/
def CtOk : Nat → Ct → Prop
  | 0, _ => False
  | d + 1, c => Cok c.num c.root (c.num - 1) (c.parts.map Ct.num) ∧ c.pr c.parts.length = c.num - 1 ∧ (∀ k, k ≤ c.parts.length → One (c.pr k) ∧ c.pr k ≤ c.num - 1) ∧ (∀ j (h : j + 1 < c.parts.length), c.parts[j].num ≤ c.parts[j + 1].num) ∧ (∀ i (h : i < c.parts.length), CtOk d c.parts[i]) ∧ c.parts.length ≤ 100
def CtDo : Nat → Ct → Prop
  | 0, _ => False
  | d + 1, c => Dok c.num c.root (c.parts.map Ct.num) ∧ (∀ i (h : i < c.parts.length), CtDo d c.parts[i]) ∧ c.parts.length ≤ 100
/-- how many certificates the first k parts hold -/
def Ct.szk : Nat → Ct → Nat → Nat
  | _, _, 0 => 1
  | 0, _, _ => 1
  | d + 1, c, k + 1 => Ct.szk (d + 1) c k + match c.parts[k]? with
    | some p => Ct.szk d p p.parts.length
    | none => 0
  termination_by d _ k => (d, k)
def Ct.sz (d : Nat) (c : Ct) : Nat := Ct.szk d c c.parts.length
theorem Ct.szk_zero {d : Nat} {c : Ct} : Ct.szk d c 0 = 1 := by unfold Ct.szk; rfl
theorem Ct.szk_succ {d : Nat} {c : Ct} {k : Nat} (hk : k < c.parts.length) : Ct.szk (d + 1) c (k + 1) = Ct.szk (d + 1) c k + Ct.sz d c.parts[k] := by
  rw [Ct.szk.eq_def]
  simp only [List.getElem?_eq_getElem hk]
  rfl
theorem Ct.szk_mono {d : Nat} {c : Ct} {k : Nat} : ∀ {m : Nat}, k ≤ m → m ≤ c.parts.length → Ct.szk (d + 1) c k ≤ Ct.szk (d + 1) c m
  | 0, h, _ => by rw [Nat.le_zero.1 h]; exact Nat.le_refl _
  | m + 1, h, hm => by
    by_cases e : k = m + 1
    · rw [e]; exact Nat.le_refl _
    · have := Ct.szk_mono (d := d) (c := c) (k := k) (m := m) (by omega) (by omega)
      rw [Ct.szk_succ (by omega)]
      omega
theorem Ct.sz_pos {d : Nat} {c : Ct} : 1 ≤ Ct.sz d c := by
  unfold Ct.sz
  cases d with
  | zero => cases c.parts.length <;> (rw [Ct.szk.eq_def]; exact Nat.le_refl _)
  | succ d => have := Ct.szk_mono (d := d) (c := c) (k := 0) (Nat.zero_le _) (Nat.le_refl _); rw [Ct.szk_zero] at this; exact this
theorem Ct.pr_succ {c : Ct} {k : Nat} (hk : k < c.parts.length) : c.pr (k + 1) = c.pr k * c.parts[k].num := by
  rw [Ct.pr, List.getD_eq_getElem?_getD, List.getElem?_map, List.getElem?_eq_getElem hk]; rfl
/-- the closed step of an induction over the depth -/
theorem map_mem {c : Ct} {k : Nat} (hk : k < c.parts.length) : c.parts[k].num ∈ c.parts.map Ct.num := List.mem_map.2 ⟨_, List.getElem_mem hk, rfl⟩
open Nn.NatMath in
theorem cmp_gt {a b : Nat} (h : a ≤ b) : decide (0 < Nn.NatMath.cmp a b) = false := by
  unfold Nn.NatMath.cmp
  split
  · rfl
  · have : a = b := by omega
    subst this; simp
open Nn.NatMath in
theorem cmp_lt' {a b : Nat} (h : a < b) : decide (0 ≤ Nn.NatMath.cmp a b) = false := by
  have := Nn.NatMath.cmp_lt_iff a b
  rw [decide_eq_true h, decide_eq_true_eq] at this
  exact decide_eq_false (by omega)
theorem cmp_ge' {a b : Nat} (h : b ≤ a) : decide (Nn.NatMath.cmp a b < 0) = false := by
  rw [Nn.NatMath.cmp_lt_iff]; exact decide_eq_false (by omega)
theorem cmp_self (a : Nat) : Nn.NatMath.cmp a a = 0 := by
  have := Nn.NatMath.cmp_zero_iff a a
  rw [decide_eq_true rfl, beq_iff_eq] at this; exact this
theorem bl_word {N : Nat} (h : One N) : decide ((1024 : Int) < (Nn.NatMath.bl N : Nat)) = false := by
  have : Nn.NatMath.bl N ≤ 32 := Nn.NatMath.bl_le_iff.2 (by have := h.2; omega)
  exact decide_eq_false (by omega)
theorem bl_some {N : Nat} (h : One N) : (((Nn.NatMath.bl N : Nat) : Int) == 0) = false := by
  have : Nn.NatMath.bl N ≠ 0 := by unfold Nn.NatMath.bl; rw [if_neg (by have := h.1; omega)]; omega
  exact beq_eq_false_iff_ne.2 (by omega)
end Go.Proofs.YtikopkkebdobdaaGreatDoor

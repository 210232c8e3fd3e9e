/- Natural numbers as facts of a walk over boxes. -/
import Derived.Test.YtikopkkebdobdaaGreatDoorVrU
import Derived.Test.YtikopkkebdobdaaGreatDoorVqC
import Derived.Test.YtikopkkebdobdaaGreatDoorPLst
import Derived.Deep.DeepCutAuto
import Derived.Deep.CutBlock
namespace Go.Proofs.YtikopkkebdobdaaGreatDoor
open Go.RowKit
set_option linter.unusedVariables false
set_option linter.unusedSimpArgs false
/-- the slice reads as these words; they lie where D says -/
def gS (v : Value) (l : List Nat) : GF where
  at_ w D := Nn.Sl w v l ∧ ∀ b off n c, v = .slice (some ⟨b, off, none⟩) n c → n ≠ 0 → D b
  turn h hs hD hc := by
    obtain ⟨⟨ao, cap, e, h1, h2, h3, h4, h5⟩, h6⟩ := h
    refine ⟨⟨ao, cap, e, h1, h2, h3, fun hl => ?_, h5⟩, fun b off n c e2 hn => ?_⟩
    · obtain ⟨b, off, k1, k2, k3⟩ := h4 hl
      have hd := h6 b off _ _ (e.trans (by rw [k1])) (fun hz => hl (List.length_eq_zero_iff.1 hz))
      exact ⟨b, off, k1, Nat.lt_of_lt_of_le k2 hs, fun i hi => (hc b _ k2 hd).trans (k3 i hi)⟩
    · have hd := h6 b off n c e2 hn
      rw [e] at e2
      simp only [Value.slice.injEq] at e2
      obtain ⟨k1, k2, k3⟩ := e2
      subst k2
      obtain ⟨b', off', q1, q2, _⟩ := h4 (fun hz => hn (by rw [hz]; rfl))
      rw [k1] at q1
      simp only [Option.some.injEq, Addr.mk.injEq, and_true] at q1
      obtain ⟨rfl, _⟩ := q1
      exact hD b q2 hd
theorem RetEqB {a b : Bool} (h : a = b) : Ending.returned (.bool a) = Ending.returned (.bool b) := by rw [h]
theorem len_small {N : Nat} (h : N < 4294967296) : Nn.NatMath.len N ≤ 64 := Nat.le_trans (Nn.NatMath.len_le_iff.2 (show N < Nn.NatMath.Bp 1 from by rw [show Nn.NatMath.Bp 1 = 4294967296 from rfl]; exact h)) (by omega : 1 ≤ 64)
/-- no cell is a word -/
def noU (cs : List Value) : Bool := cs.all fun u => match u with
  | .int .u32 _ => false
  | _ => true
def noUF (F : List Bx) : Bool := F.all fun p => noU p.2.2
section
variable {w W W' : World} {F : List Bx} {G : List Fct} {v : Value} {l : List Nat} {D : Nat → Prop}
theorem gS.sl (h : Fct.at W D (.gn (gS v l))) : Nn.Sl W v l := h.1
theorem gS.of (h : Nn.Sl W v l) : Fct.at W (fun _ => True) (.gn (gS v l)) := ⟨h, fun _ _ _ _ _ _ => trivial⟩
theorem Env.argS (h : Env (fun _ => True) w [] G w) (hn : Nn.Sl w v l) : Env (fun _ => True) w [] (.gn (gS v l) :: G) w := h.note _ ⟨hn, fun _ _ _ _ _ _ => ⟨fun p hp => (by cases hp), .inl trivial⟩⟩
/-- words lie in no box without words -/
theorem Env.noteS (h : Env (fun _ => True) w F G W) (hn : Nn.Sl W v l) (hF : noUF F = true) : Env (fun _ => True) w F (.gn (gS v l) :: G) W := by
  refine h.note _ ⟨hn, fun b off n c e hne => ⟨fun p hp eb => ?_, .inl trivial⟩⟩
  subst eb
  obtain ⟨ao, cap, e2, h1, h2, h3, h4, h5⟩ := hn
  rw [e] at e2
  simp only [Value.slice.injEq] at e2
  obtain ⟨k1, k2, k3⟩ := e2
  obtain ⟨b', off', q1, q2, q3⟩ := h4 (fun hz => hne (by rw [k2, hz]; rfl))
  rw [← k1] at q1
  simp only [Option.some.injEq, Addr.mk.injEq, and_true] at q1
  obtain ⟨q1, rfl⟩ := q1
  subst q1
  have hB := (held_iff.1 h.box).1 p hp
  have hc := q3 0 (by omega)
  rw [cell_of_row W p.1 _ p.2.2.toArray p.2.1 (0, 0) hB.2] at hc
  simp only [Nat.add_zero, List.getElem?_toArray] at hc
  have hm := List.mem_of_getElem? hc
  have h8 := List.all_eq_true.1 hF p hp
  have h9 := List.all_eq_true.1 h8 _ hm
  simp at h9
theorem Sl.num {N : Nat} {a : Option Addr} {k : Nat} (h : Hid (Nn.Nt W (.slice a (Nn.NatMath.len N) k) N)) : Nn.Sl W (.slice a (Nn.NatMath.len N) k) (Nn.NatMath.digs N) := h.out
end
/-! ### lists of numbers -/
/-- the cells of a block from o on are slices that read as these lists -/
def gNs (g o : Nat) (ls : List (List Nat)) : GF where
  at_ w D := ∀ i (h : i < ls.length), (g < w.heap.size ∧ D g) ∧ ∃ (a : Option Addr) (c : Nat), w.cell? ⟨g, o + i, none⟩ = some (.slice a ls[i].length c) ∧ (gS (.slice a ls[i].length c) ls[i]).at_ w D
  turn h hs hD hc := fun i hi => by
    obtain ⟨h1, a, c, e1, e2⟩ := h i hi
    exact ⟨⟨Nat.lt_of_lt_of_le h1.1 hs, hD _ h1.1 h1.2⟩, a, c, (hc _ _ h1.1 h1.2).trans e1, (gS _ _).turn e2 hs hD hc⟩
theorem Env.elS {D0 : Nat → Prop} {w W : World} {F : List Bx} {G : List Fct} (h : Env D0 w F G W) (i : Nat) {g o : Nat} {ls : List (List Nat)} (e : G[i]? = some (.gn (gNs g o ls))) (k : Nat) (hk : k < ls.length) :
    ∃ va vk, Env D0 w F (.ce g (o + k) (.slice va ls[k].length vk) :: .gn (gS (.slice va ls[k].length vk) ls[k]) :: G) W := by
  obtain ⟨h1, a, c, e1, e2⟩ := (h.fc i e : (gNs g o ls).at_ W (DF D0 w.heap.size F)) k hk
  exact ⟨a, c, (h.note (.gn (gS _ _)) e2).note (.ce _ _ _) ⟨h1, e1⟩⟩
/-- slices in a box -/
def SlsAt (W : World) : List Value → List (List Nat) → Prop
  | [], [] => True
  | u :: cs, l :: ls => Nn.Sl W u l ∧ SlsAt W cs ls
  | _, _ => False
theorem SlsAt.get {W : World} : ∀ {cs : List Value} {ls : List (List Nat)}, SlsAt W cs ls → ∀ i (h : i < ls.length), ∃ u, cs[i]? = some u ∧ Nn.Sl W u ls[i]
  | [], [], _, i, h => by simp at h
  | u :: cs, l :: ls, h, 0, _ => ⟨u, rfl, h.1⟩
  | u :: cs, l :: ls, h, i + 1, hi => by
    obtain ⟨v, h1, h2⟩ := SlsAt.get h.2 i (by simpa using hi)
    exact ⟨v, by simpa using h1, h2⟩
  | [], _ :: _, h, _, _ => by cases h
  | _ :: _, [], h, _, _ => by cases h
theorem gNs.box {W : World} {B g : Nat} {T : TypeId} {cs : List Value} {ls : List (List Nat)} (hB : Box B g T cs W) (h : SlsAt W cs ls) : Fct.at W (fun _ => True) (.gn (gNs g 0 ls)) := by
  intro i hi
  obtain ⟨u, h1, h2⟩ := h.get i hi
  have h3 := h2
  obtain ⟨a, c, rfl, _⟩ := h2
  exact ⟨⟨hB.lt, trivial⟩, a, c, hB.cell (0 + i) (by rw [Nat.zero_add]; exact h1), h3, fun _ _ _ _ _ _ => trivial⟩
end Go.Proofs.YtikopkkebdobdaaGreatDoor

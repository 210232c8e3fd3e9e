/- Contracts of LinC, LinE, LinF, LinMk, LinTb, SesAp, SesLs, SesN, SesX: those that this program has. -/
import Derived.Test.YteipbcpnnojclaaDoorSesA
import Derived.Test.YteipbcpnnojclaaDoorShelf
import Derived.Test.YteipbcpnnojclaaDoorNatReg
import Derived.Test.YteipbcpnnojclaaDoorReg4
import Derived.Deep.Upon
import Derived.Deep.AppendSrc
import Derived.Maps.AppendAt
import Derived.Shelf.SlicesE.Clone
namespace Go.Proofs.YteipbcpnnojclaaDoor
open Go.RowKit
set_option linter.unusedVariables false
/-- but for block g the world's old blocks are as they were -/
structure Off (g : Nat) (w w' : World) : Prop where
  os : w'.os = w.os
  tape : w'.tape = w.tape
  output : w'.output = w.output
  size : w.heap.size ≤ w'.heap.size
  block : ∀ k, k < w.heap.size → k ≠ g → w'.heap[k]? = w.heap[k]?
/-- what a walk holds behind Insert -/
theorem Off.cell {g : Nat} {w w' : World} (h : Off g w w') {b i : Nat} (hb : b < w.heap.size) (hne : b ≠ g) : w'.cell? ⟨b, i, none⟩ = w.cell? ⟨b, i, none⟩ := World.cell?_of_block (w := w) (h.block b hb hne)
theorem Off.sets {g : Nat} {w : World} : ∀ (vs : List Value) (o : Nat) (W : World), Off g w W → Off g w (W.setCells g o vs)
  | [], _, _, h => h
  | v :: r, o, W, h => Off.sets r (o + 1) _ ⟨h.os, h.tape, h.output, by simpa using h.size, fun k hk hne => (Below.heap_setCell _ _ _ _ hne).trans (h.block k hk hne)⟩
theorem Off.below {g : Nat} {w w' : World} (h : Below w.heap.size w w') : Off g w w' := ⟨h.os, h.tape, h.output, h.size, fun k hk _ => h.block k hk⟩
theorem Env.ins {D0 : Nat → Prop} {w W W' : World} {F : List Bx} {G : List Fct} (h : Env D0 w F G W) (idx : Nat) {g g' : Nat} {T : TypeId} {cs cs' : List Value} (e : F[idx]? = some (g, T, cs)) (ho : Off g W W') (hg : g' = g ∨ W.heap.size ≤ g') (hB : W'.heap[g']? = some (.cells cs'.toArray T (0, 0))) :
    Env D0 w (F.set idx (g', T, cs')) G W' := by
  have hBg := h.box.get idx e
  have hge : w.heap.size ≤ g' := by rcases hg with rfl | hg; exact hBg.1; exact Nat.le_trans h.bel.size hg
  have hF : ∀ (F : List Bx) (idx : Nat), F[idx]? = some (g, T, cs) → HeldF w.heap.size F W → HeldF w.heap.size (F.set idx (g', T, cs')) W' := by
    intro F
    induction F with
    | nil => intro idx e; simp at e
    | cons p F ih =>
      intro idx e hh
      rcases idx with _ | idx
      · simp only [List.getElem?_cons_zero, Option.some.injEq] at e
        subst e
        refine ⟨⟨hge, hB⟩, fun q hq e2 => ?_, ?_⟩
        · have hq1 := hh.2.1 q hq
          have hq2 := hh.2.2.old q hq
          rcases hg with rfl | hg
          · exact hq1 e2
          · simp only at e2; omega
        · have hkeep : ∀ (F : List Bx), (∀ q ∈ F, q.1 ≠ g) → HeldF w.heap.size F W → HeldF w.heap.size F W' := by
            intro F
            induction F with
            | nil => intro _ _; exact trivial
            | cons q F ih2 => exact fun hne hh => ⟨⟨hh.1.1, (ho.block _ hh.1.lt (hne q (by simp))).trans hh.1.2⟩, hh.2.1, ih2 (fun r hr => hne r (by simp [hr])) hh.2.2⟩
          exact hkeep F hh.2.1 hh.2.2
      · have e' : F[idx]? = some (g, T, cs) := by simpa using e
        have hm : (g, T, cs) ∈ F := List.mem_of_getElem? e'
        have hpg : p.1 ≠ g := fun e2 => hh.2.1 _ hm e2.symm
        refine ⟨⟨hh.1.1, (ho.block _ hh.1.lt hpg).trans hh.1.2⟩, fun q hq => ?_, ih idx e' hh.2.2⟩
        rcases List.mem_or_eq_of_mem_set hq with hq | rfl
        · exact hh.2.1 q hq
        · simp only
          intro e3
          rcases hg with rfl | hg
          · exact hpg e3.symm
          · have := hh.1.lt; omega
  have hm : (g, T, cs) ∈ F := List.mem_of_getElem? e
  refine ⟨⟨ho.os.trans h.bel.os, ho.tape.trans h.bel.tape, ho.output.trans h.bel.output, Nat.le_trans h.bel.size ho.size, fun k hk => (ho.block k (Nat.lt_of_lt_of_le hk h.bel.size) (by have := hBg.1; omega)).trans (h.bel.block k hk)⟩, hF F idx e h.box, ?_⟩
  refine h.fct.turn ho.size (fun b hl hd => ⟨fun p hp => ?_, hd.2⟩) (fun b i hl hd => ho.cell hl (fun e2 => hd.1 _ hm e2.symm))
  rcases List.mem_or_eq_of_mem_set hp with hp | rfl
  · exact hd.1 p hp
  · simp only
    rcases hg with rfl | hg
    · exact hd.1 _ hm
    · omega
variable {D0 : Nat → Prop} {w W W' : World} {F A B' sg : List Bx} {G G' : List Fct} {cs : List Value} {v : Value} {l : List Int}
theorem Env.gotBox {D0 : Nat → Prop} {w W W' : World} {F : List Bx} {G : List Fct} (h : Env D0 w F G W) (hb : Below W.heap.size W W') {g : Nat} {T : TypeId} {cs : List Value} (hB : Box W.heap.size g T cs W') : Env D0 w ((g, T, cs) :: F) G W' := by
  have h' := h.below hb
  refine ⟨h'.bel, ⟨⟨Nat.le_trans h.bel.size hB.1, hB.2⟩, fun q hq e => by have := h.box.old q hq; have := hB.1; simp only at e; omega, h'.box⟩, ?_⟩
  refine h.fct.turn hb.size (fun b hl hd => ⟨fun p hp => ?_, hd.2⟩) (fun b i hl _ => hb.cell (p := ⟨b, i, none⟩) hl)
  rcases List.mem_cons.1 hp with rfl | hp
  · have := hB.1; simp only; omega
  · exact hd.1 p hp
theorem Env.gotOwn {D0 : Nat → Prop} {w W W' : World} {F : List Bx} {G G' : List Fct} {g : Nat} {T : TypeId} {cs : List Value} (h : Env D0 w F G W) (h' : Env D0 w ((g, T, cs) :: F) G' W') (f : Fct) (hf : f.at W' (fun b => (DF D0 w.heap.size F b ∨ W.heap.size ≤ b) ∧ b ≠ g)) : Env D0 w ((g, T, cs) :: F) (f :: G') W' :=
  h'.note f (Fct.turn hf (Nat.le_refl _) (fun b _ hd => by
    obtain ⟨hd, hne⟩ := hd
    have hall : (∀ p ∈ F, p.1 ≠ b) ∧ (D0 b ∨ w.heap.size ≤ b) := by
      rcases hd with hd | hd
      · exact hd
      · exact ⟨fun p hp e => by have := h.box.old p hp; omega, .inr (Nat.le_trans h.bel.size hd)⟩
    exact ⟨fun p hp => by
      rcases List.mem_cons.1 hp with rfl | hp
      · exact fun e => hne e.symm
      · exact hall.1 p hp, hall.2⟩) (fun _ _ _ _ => rfl))
theorem gb_below {w w' : World} (h : Below w.heap.size w w') : w.grownBy w' none := ⟨h.os, h.tape, h.output, h.size, fun k hk _ => h.block k hk⟩
theorem Env.bare (h : Env D0 w F G W) : Env D0 w F [] W := ⟨h.bel, h.box, trivial⟩
/-- boxes in another order -/
theorem held_iff {B : Nat} : ∀ {F : List Bx} {W : World}, HeldF B F W ↔ (∀ p ∈ F, Box B p.1 p.2.1 p.2.2 W) ∧ F.Pairwise (fun p q => p.1 ≠ q.1)
  | [], W => by simp [HeldF]
  | (b, T, cs) :: F, W => by
    simp only [HeldF, held_iff (F := F), List.mem_cons, forall_eq_or_imp, List.pairwise_cons]
    constructor
    · rintro ⟨h1, h2, h3, h4⟩; exact ⟨⟨h1, h3⟩, fun q hq e => h2 q hq e.symm, h4⟩
    · rintro ⟨⟨h1, h3⟩, h2, h4⟩; exact ⟨h1, fun q hq e => h2 q hq e.symm, h3, h4⟩
theorem Env.perm {F' : List Bx} (h : Env D0 w F G W) (hp : F.Perm F') : Env D0 w F' G W := by
  obtain ⟨h1, h2, h3⟩ := h
  refine ⟨h1, ?_, h3.turn (Nat.le_refl _) (fun b _ hd => ⟨fun p hp2 => hd.1 p (hp.mem_iff.2 hp2), hd.2⟩) (fun _ _ _ _ => rfl)⟩
  rw [held_iff] at h2 ⊢
  exact ⟨fun p hp2 => h2.1 p (hp.mem_iff.2 hp2), (hp.pairwise_iff (fun h e => h e.symm)).1 h2.2⟩
theorem cell_alloc {W : World} {b i : Nat} {v : Value} (h : W.cell? ⟨b, i, none⟩ = some v) (o : Obj) : (W.alloc o).cell? ⟨b, i, none⟩ = some v := by
  have hb := World.block_lt_of_cell? W _ h
  exact (((Below.refl W.heap.size W).alloc (Nat.le_refl _) o).cell (p := ⟨b, i, none⟩) hb).trans h
theorem Tryd.infoInt : (Tryd.prog.info? 3).map (fun i => (i.zero, i.size, i.bytes)) = some (some (Value.int .i64 0), 1, 8) := by kernel_rfl
theorem infoK_openInt : ∃ i0, Tryd.prog.info? 3 = some i0 ∧ i0.zero = some (Value.int .i64 0) ∧ i0.size = 1 ∧ i0.bytes = 8 := by
  have : (Tryd.prog.info? 3).map (fun i => (i.zero, i.size, i.bytes)) = some (some (Value.int .i64 0), 1, 8) := by kernel_rfl
  cases hh : Tryd.prog.info? 3 with
  | none => rw [hh] at this; simp at this
  | some i => rw [hh] at this; simp only [Option.map_some, Option.some.injEq, Prod.mk.injEq] at this; exact ⟨i, rfl, this⟩
set_option maxHeartbeats 2000000 in
set_option maxRecDepth 100000 in
/-- slices.Clone of a list of no element that is not nil, whatever its address -/
theorem clone_zeroInt {a : Addr} {c : Nat} {w : World} : Calls Tryd.prog 39 #[.slice (some a) 0 c] w fun e w' => (∃ v', e = .returned v' ∧ w'.ownsRow w.heap.size 3 1 v' 0 []) ∧ Below w.heap.size w w' := by
  obtain ⟨i0, hi0, z0, z1, z2⟩ := infoK_openInt
  have HI := Lib.hid hi0
  have Z0 := Lib.hid z0; have Z1 := Lib.hid z1; have Z2 := Lib.hid z2
  clear hi0 z0 z1 z2
  have q22 : ∀ (w : World) (a : Option Addr) (n c n' c' : Nat), (binOp .eql 22 (.slice a n c) (.slice none n' c')).run Tryd.prog w = .ok (.bool a.isNone) w := fun w a n c n' c' => Lib.run_eql_slice_nil w _ _ a n c n' c' Tryd.underlying22
  go_enter Tryd.func39, Tryd.ntmps39
  go_wp2_with (at_builtin; refine wpList_append_own _ rfl _ _ 22 rfl w.heap.size 3 i0 ((Value.int .i64 0)) 1 8 Tryd.underlying22 HI.out Z0.out Z1.out Z2.out rfl (by omega) _ _ _ rfl (World.ownsRow_made w #[] 0 (Nat.le_refl _) (Nat.zero_le _) (by simp)) a 0 c [] rfl ?qc1 ?qc2 ?qc3 ?qc4 ?qc5 ?qc6 ?_)
  case qc1 => rfl
  case qc2 => intro j u hj; simp at hj
  case qc3 => intro u hu; simp at hu
  case qc4 => unfold maxLen; omega
  case qc5 => omega
  case qc6 => simp
  intro v' w1 hown hgrow hnil
  have HG := Lib.hid hgrow
  have HO : Hid (w1.ownsRow w.heap.size 3 1 v' 0 []) := Lib.hid (by simpa using hown)
  rcases hown.2 with ⟨rfl, _⟩ | ⟨g, cap, cur, rfl, _, _, _, _, _, _⟩
  all_goals
    clear hgrow hown hnil
    go_wp2
    go_ret
    exact ⟨⟨_, rfl, HO.out⟩, ((Below.refl _ w).alloc (Nat.le_refl _) _).grown HG.out (by simp) (by intro k hk; simp [Value.ownBlock] at hk; omega)⟩
theorem cloneRInt {D : Nat → Prop} {v : Value} {n : Nat} {xs : List Value} {w : World} (h : Rw w D v n 1 xs) (hl : n ≤ 1000000) :
    Calls Tryd.prog 39 #[v] w fun e w' => (∃ v', e = .returned v' ∧ w'.ownsRow w.heap.size 3 1 v' n xs) ∧ Below w.heap.size w w' := by
  obtain ⟨ao, cap, rfl, h1, h2, h3, h4, h5⟩ := h
  obtain ⟨i0, hi0, z0, z1, z2⟩ := infoK_openInt
  by_cases hn : n = 0
  · subst hn
    have hx : xs = [] := List.length_eq_zero_iff.1 (h3.trans (Nat.zero_mul _))
    subst hx
    cases ao with
    | none =>
      refine (AnyE.slices_Clone_nil Tryd.laysSlE041_f39 _ _ w).mono ?_
      rintro e w' ⟨rfl, rfl⟩
      exact ⟨⟨_, rfl, rfl, .inl ⟨rfl, rfl⟩⟩, Below.refl _ _⟩
    | some a => exact clone_zeroInt
  · obtain ⟨b, off, rfl, ⟨hb, hd⟩, hc⟩ := h5 hn
    refine (AnyE.slices_Clone Tryd.laysSlE041_f39 i0 ((Value.int .i64 0)) 1 8 hi0 z0 z1 z2 rfl (by omega) Tryd.sizeOf3 b off n cap xs w h3 (by unfold maxLen; omega) (by omega) (fun j u hj => hc j u hj) h4).mono ?_
    rintro e w' ⟨v', rfl, ho, _, hb⟩
    exact ⟨⟨v', rfl, ho⟩, hb⟩
def icl (l : List Int) : List Value := l.map (Value.int .i64)
theorem icl_len (l : List Int) : (icl l).length = l.length * 1 := by simp [icl]
theorem icl_get (l : List Int) (i : Nat) (h : i < l.length) : (icl l)[i]? = some (.int .i64 l[i]) := by simp [icl, List.getElem?_eq_getElem h]
theorem icl_one (l : List Int) : ∀ u ∈ icl l, u.oneCell' = true := by intro u hu; obtain ⟨x, _, rfl⟩ := List.mem_map.1 hu; rfl
theorem Rw.open {W : World} {D : Nat → Prop} {v : Value} {n k : Nat} {cs : List Value} (h : Rw W D v n k cs) (hn : n ≠ 0) : ∃ b off j, v = .slice (some ⟨b, off, none⟩) n j := by
  obtain ⟨ao, cap, h1, _, _, _, _, h6⟩ := h
  obtain ⟨b, off, rfl, _⟩ := h6 hn
  exact ⟨b, off, cap, h1⟩
theorem Rw.el {W : World} {D : Nat → Prop} {b off n j k : Nat} {cs : List Value} (h : Rw W D (.slice (some ⟨b, off, none⟩) n j) n k cs) (hn : n ≠ 0) {i : Nat} {u : Value} (hu : cs[i]? = some u) : (b < W.heap.size ∧ D b) ∧ W.cell? ⟨b, off + i, none⟩ = some u := by
  obtain ⟨ao, cap, h1, _, _, _, _, h6⟩ := h
  obtain ⟨b', off', k1, k2, k3⟩ := h6 hn
  simp only [Value.slice.injEq] at h1
  obtain ⟨h1, _, _⟩ := h1
  subst h1
  simp only [Option.some.injEq, Addr.mk.injEq, and_true] at k1
  obtain ⟨rfl, rfl⟩ := k1
  exact ⟨k2, k3 i u hu⟩
/-- the cell of an int of a row -/
theorem Env.elI {D0 : Nat → Prop} {w W : World} {F : List Bx} {G : List Fct} (h : Env D0 w F G W) (i : Nat) {b off n j : Nat} {l : List Int} (e : G[i]? = some (.rw (.slice (some ⟨b, off, none⟩) n j) n 1 (icl l))) (hn : n = l.length) (k : Nat) (hk : k < l.length) : Env D0 w F (.ce b (off + k) (.int .i64 l[k]) :: G) W := by
  have hm : Rw W (DF D0 w.heap.size F) (.slice (some ⟨b, off, none⟩) n j) n 1 (icl l) := h.fct.get i e
  exact h.note _ (hm.el (by omega) (icl_get l k hk))
/-- a row of the call's own: nil, or a box -/
def OS (T : TypeId) (sz : Nat) (sg : List Bx) (cs : List Value) (v : Value) (n : Nat) : Prop :=
  (sg = [] ∧ cs = [] ∧ v = .slice none 0 0 ∧ n = 0) ∨ ∃ g cap, sg = [(g, T, cs)] ∧ v = .slice (some ⟨g, 0, none⟩) n cap ∧ n ≤ cap ∧ cap ≤ 9223372036854775807 ∧ cs.length = cap * sz
theorem OS.len {T : TypeId} {sz : Nat} {sg : List Bx} {cs : List Value} {v : Value} {n : Nat} (h : OS T sz sg cs v n) : ∃ a c, v = .slice a n c := by
  rcases h with ⟨_, _, rfl, rfl⟩ | ⟨g, cap, _, rfl, _⟩
  · exact ⟨none, 0, rfl⟩
  · exact ⟨_, _, rfl⟩
/-- a list of ints of the call's own -/
def OI (sg : List Bx) (cs : List Value) (v : Value) (l : List Int) : Prop := OS 3 1 sg cs v l.length ∧ cs.take l.length = icl l
theorem OI.nil : OI [] [] (.slice none 0 0) [] := ⟨.inl ⟨rfl, rfl, rfl, rfl⟩, rfl⟩
theorem Rw.ofOwns {T : TypeId} {B n k : Nat} {v : Value} {cs : List Value} {W : World} (h : W.ownsRow B T k v n cs) (h1 : ∀ u ∈ cs, u.oneCell' = true) : Rw W (fun b => B ≤ b) v n k cs := by
  rcases h.2 with ⟨rfl, rfl⟩ | ⟨g, cap, cur, rfl, hb, hg, hn, hm, hs, ht⟩
  · have : cs = [] := List.length_eq_zero_iff.1 (by rw [h.1]; omega)
    subst this; exact Rw.nil _ _ _
  · refine ⟨_, cap, rfl, hn, by unfold maxLen at hm; omega, h.1, h1, fun _ => ⟨g, 0, rfl, ⟨lt_of_block hg, hb⟩, fun i u hu => ?_⟩⟩
    rw [cell_of_row W g (0 + i) cur T (0, 0) hg, Nat.zero_add]
    rw [← ht, List.getElem?_take] at hu
    split at hu
    · simpa using hu
    · cases hu
theorem OI.ofOwns {B : Nat} {v : Value} {l : List Int} {W : World} (h : W.ownsRow B 3 1 v l.length (icl l)) : ∃ sg cs, OI sg cs v l ∧ HeldF B sg W := by
  rcases h.2 with ⟨rfl, h0⟩ | ⟨g, cap, cur, rfl, hb, hg, hn, hm, hs, ht⟩
  · have : l = [] := List.length_eq_zero_iff.1 h0
    subst this; exact ⟨[], [], OI.nil, trivial⟩
  · exact ⟨_, cur.toList, ⟨.inr ⟨g, cap, rfl, rfl, hn, by unfold maxLen at hm; omega, by simpa using hs⟩, by simpa using ht⟩, ⟨hb, by rw [Array.toArray_toList]; exact hg⟩, by simp, trivial⟩
/-- slices.Clone of ints: a list of the call's own -/
theorem cloneI_own {D : Nat → Prop} {v : Value} {l : List Int} {w : World} (h : Fct.at w D (.rw v l.length 1 (icl l))) (hl : l.length ≤ 1000000) :
    Calls Tryd.prog 39 #[v] w fun e w' => (∃ sg cs v', e = .returned v' ∧ Hid (OI sg cs v' l) ∧ Hid (HeldF w.heap.size sg w')) ∧ Below w.heap.size w w' :=
  (cloneRInt h hl).mono fun e w' ⟨⟨v', h1, h2⟩, hb⟩ => by
    obtain ⟨sg, cs, h3, h4⟩ := OI.ofOwns h2
    exact ⟨⟨sg, cs, v', h1, Lib.hid h3, Lib.hid h4⟩, hb⟩
theorem HeldF.app {B : Nat} : ∀ {F S : List Bx} {W : World}, HeldF B F W → HeldF B S W → (∀ p ∈ F, ∀ q ∈ S, q.1 ≠ p.1) → HeldF B (F ++ S) W
  | [], S, W, _, h, _ => h
  | p :: F, S, W, h, h2, hne => ⟨h.1, fun q hq => by
      rcases List.mem_append.1 hq with hq | hq
      · exact h.2.1 q hq
      · exact hne p (by simp) q hq, HeldF.app h.2.2 h2 (fun p hp => hne p (by simp [hp]))⟩
theorem HeldF.lower {B B' : Nat} (hB : B' ≤ B) : ∀ {F : List Bx} {W : World}, HeldF B F W → HeldF B' F W
  | [], _, _ => trivial
  | p :: F, W, h => ⟨⟨Nat.le_trans hB h.1.1, h.1.2⟩, h.2.1, HeldF.lower hB h.2.2⟩
theorem HeldF.ge {B : Nat} : ∀ {F : List Bx} {W : World}, HeldF B F W → ∀ p ∈ F, B ≤ p.1
  | [], _, _, p, hp => by cases hp
  | q :: F, W, h, p, hp => by
    rcases List.mem_cons.1 hp with rfl | hp
    · exact h.1.1
    · exact HeldF.ge h.2.2 p hp
/-- boxes that came back: they stand at the end of the walk's -/
theorem Env.gotSeg {D0 : Nat → Prop} {w W W' : World} {F S : List Bx} {G : List Fct} (h : Env D0 w F G W) (hb : Below W.heap.size W W') (hS : HeldF W.heap.size S W') : Env D0 w (F ++ S) G W' := by
  have h' := h.below hb
  refine ⟨h'.bel, h'.box.app (hS.lower h.bel.size) (fun p hp q hq e => by have := h.box.old p hp; have := hS.ge q hq; omega), ?_⟩
  refine h.fct.turn hb.size (fun b hl hd => ⟨fun p hp => ?_, hd.2⟩) (fun b i hl _ => hb.cell (p := ⟨b, i, none⟩) hl)
  rcases List.mem_append.1 hp with hp | hp
  · exact hd.1 p hp
  · have := hS.ge p hp; omega
/-- a fact that came back beside boxes -/
theorem Env.gotSegF {D0 : Nat → Prop} {w W W' : World} {F S : List Bx} {G G' : List Fct} (h : Env D0 w F G W) (h' : Env D0 w (F ++ S) G' W') (f : Fct) (hf : f.at W' (fun b => (DF D0 w.heap.size F b ∨ W.heap.size ≤ b) ∧ ∀ p ∈ S, p.1 ≠ b)) : Env D0 w (F ++ S) (f :: G') W' :=
  h'.note f (Fct.turn hf (Nat.le_refl _) (fun b _ hd => by
    obtain ⟨hd, hne⟩ := hd
    have hall : (∀ p ∈ F, p.1 ≠ b) ∧ (D0 b ∨ w.heap.size ≤ b) := by
      rcases hd with hd | hd
      · exact hd
      · exact ⟨fun p hp e => by have := h.box.old p hp; omega, .inr (Nat.le_trans h.bel.size hd)⟩
    exact ⟨fun p hp => by
      rcases List.mem_append.1 hp with hp | hp
      · exact hall.1 p hp
      · exact hne p hp, hall.2⟩) (fun _ _ _ _ => rfl))
theorem OI.rw {sg : List Bx} {cs : List Value} {v : Value} {l : List Int} {D0 : Nat → Prop} {w W : World} {F : List Bx} {G : List Fct} (h : OI sg cs v l) (E : Env D0 w F G W) (hs : ∀ p ∈ sg, p ∈ F) : Fct.at W (fun b => D0 b ∨ w.heap.size ≤ b) (.rw v l.length 1 (icl l)) := by
  obtain ⟨h, ht⟩ := h
  rcases h with ⟨rfl, rfl, rfl, h0⟩ | ⟨g, cap, rfl, rfl, h1, h2, h3⟩
  · have : l = [] := List.length_eq_zero_iff.1 h0
    subst this; exact Rw.nil _ _ _
  · have hB := (held_iff.1 E.box).1 (g, 3, cs) (hs _ (by simp))
    refine ⟨_, cap, rfl, h1, h2, icl_len l, icl_one l, fun _ => ⟨g, 0, rfl, ⟨hB.lt, .inr hB.1⟩, fun i u hu => ?_⟩⟩
    rw [Nat.zero_add]
    rw [← ht, List.getElem?_take] at hu
    split at hu
    · exact hB.cell _ hu
    · cases hu
theorem seg_ne {g gv : Nat} {T Tv : TypeId} {news : List Value} {j : Nat} (E : Env D0 w (A ++ ((g, T, cs) :: B')) G W) (hV : A[j]? = some (gv, Tv, news)) : gv ≠ g := by
  have h := (held_iff.1 E.box).2
  rw [List.pairwise_append] at h
  exact h.2.2 _ (List.mem_of_getElem? hV) (g, T, cs) (by simp)
theorem seg_box {gv : Nat} {Tv : TypeId} {news S : List Value} {R : List Bx} {j : Nat} (E : Env D0 w (A ++ R) G W) (hV : A[j]? = some (gv, Tv, news)) : Box w.heap.size gv Tv news W :=
  (held_iff.1 E.box).1 (gv, Tv, news) (by simp [List.mem_of_getElem? hV])
theorem Env.cast {F' : List Bx} (E : Env D0 w F G W) (e : F = F') : Env D0 w F' G W := e ▸ E
theorem set_seg (p q : Bx) : (A ++ (p :: B')).set A.length q = A ++ (q :: B') := by simp
/-- a slice type, its elements' type and their size -/
structure TI (sl T : TypeId) (sz : Nat) : Prop where
  u : Tryd.prog.underlying sl = some (.slice T)
  i : ∃ i z b, Tryd.prog.info? T = some i ∧ i.zero = some z ∧ i.size = sz ∧ i.bytes = b ∧ z.cells.size = sz ∧ 0 < sz ∧ b ≤ 1000
theorem TI.ofInfo {sl T : TypeId} {sz b : Nat} {z : Value} (hu : Tryd.prog.underlying sl = some (.slice T)) (h : (Tryd.prog.info? T).map (fun i => (i.zero, i.size, i.bytes)) = some (some z, sz, b)) (hz : z.cells.size = sz) (h0 : 0 < sz) (hb : b ≤ 1000) : TI sl T sz := by
  refine ⟨hu, ?_⟩
  cases hh : Tryd.prog.info? T with
  | none => rw [hh] at h; simp at h
  | some i => rw [hh] at h; simp only [Option.map_some, Option.some.injEq, Prod.mk.injEq] at h; exact ⟨i, z, b, rfl, h.1, h.2.1, h.2.2, hz, h0, hb⟩
theorem tiI : TI 22 3 1 := .ofInfo Tryd.underlying22 Tryd.infoInt rfl (by omega) (by omega)
/-- the slice (ad, m) reads as the cells news, sz to an element -/
def SrcN (sz : Nat) (W : World) (ad : Option Addr) (m : Nat) (news : List Value) : Prop := news.length = m * sz ∧ (∀ u ∈ news, u.oneCell' = true) ∧ (m = 0 ∨ ∃ a, ad = some a ∧ ∀ j u, news[j]? = some u → W.cell? (a.add j) = some u)
theorem Rw.src {W : World} {D : Nat → Prop} {a : Option Addr} {n c k : Nat} {cs : List Value} (h : Rw W D (.slice a n c) n k cs) : SrcN k W a n cs := by
  obtain ⟨ao, cap, h1, h2, h3, h4, h5, h6⟩ := h
  simp only [Value.slice.injEq] at h1
  obtain ⟨rfl, _, rfl⟩ := h1
  refine ⟨h4, h5, ?_⟩
  by_cases hn : n = 0
  · exact .inl hn
  · obtain ⟨b, off, rfl, _, hc⟩ := h6 hn
    exact .inr ⟨_, rfl, fun j u hj => by rw [Addr.add_lit]; exact hc j u hj⟩
theorem SrcN.box {sz B g : Nat} {T : TypeId} {cs : List Value} {W : World} (h : Box B g T cs W) {m : Nat} (hl : cs.length = m * sz) (h1 : ∀ u ∈ cs, u.oneCell' = true) : SrcN sz W (some ⟨g, 0, none⟩) m cs :=
  ⟨hl, h1, .inr ⟨_, rfl, fun j u hj => by rw [Addr.add_lit, Nat.zero_add]; exact h.cell _ hj⟩⟩
theorem SrcN.int {B g : Nat} {T : TypeId} {W : World} {x : Int} (h : Box B g T [.int .i64 x] W) : SrcN 1 W (some ⟨g, 0, none⟩) 1 [.int .i64 x] :=
  SrcN.box h rfl (by intro u hu; simp only [List.mem_cons, List.not_mem_nil, or_false] at hu; subst hu; rfl)
theorem app_run {sl T : TypeId} {sz : Nat} (ti : TI sl T sz) (ty : TypeId) (E : Env D0 w F G W) (hF : F = A ++ (sg ++ B')) {n : Nat} (hO : OS T sz sg cs v n) {ad : Option Addr} {m c : Nat} {news : List Value} (hsrc : SrcN sz W ad m news) (hb : n + m ≤ 1000000) :
    ∃ v' W', (Builtin.append_ #[sl, sl] ty #[v, .slice ad m c]).run Tryd.prog W = .ok v' W' ∧ ∃ sg' cs', OS T sz sg' cs' v' (n + m) ∧ cs'.take ((n + m) * sz) = cs.take (n * sz) ++ news ∧ Env D0 w (A ++ (sg' ++ B')) G W' ∧ (m ≠ 0 → ∃ g' cap', sg' = [(g', T, cs')] ∧ v' = .slice (some ⟨g', 0, none⟩) (n + m) cap' ∧ n + m ≤ cap' ∧ cap' ≤ 9223372036854775807 ∧ cs'.length = cap' * sz) := by
  obtain ⟨hu, i0, z, b, hi0, z0, z1, z2, z3, z4, z5⟩ := ti
  obtain ⟨hnl, h1, hcell⟩ := hsrc
  subst hF
  rcases hcell with rfl | ⟨a, rfl, hcell⟩
  · have hn0 : news = [] := List.length_eq_zero_iff.1 (hnl.trans (Nat.zero_mul _))
    subst hn0
    have hsrc : Src Tryd.prog i0.size sl (.slice ad 0 c) 0 [] W := by
      cases ad with
      | none => exact Src.ofNil W hu c
      | some ad => exact Src.ofSlice W hu ad 0 c [] (by simp) (by intro j u hj; simp at hj) (by simp)
    have hv : ∃ a k, v = .slice a n k ∧ n ≤ k := by
      rcases hO with ⟨_, _, rfl, rfl⟩ | ⟨g, cap, _, rfl, h, _⟩
      · exact ⟨none, 0, rfl, Nat.le_refl _⟩
      · exact ⟨_, _, rfl, h⟩
    obtain ⟨a, k, rfl, hk⟩ := hv
    exact ⟨_, _, run_append_nothing W sl sl ty T i0 hu hi0 a n k hk (.slice ad 0 c) hsrc, sg, cs, hO, by simp, E, fun h => absurd rfl h⟩
  · have hown : W.ownsRow 0 T sz v n (cs.take (n * sz)) := by
      rcases hO with ⟨rfl, rfl, rfl, rfl⟩ | ⟨g, cap, rfl, rfl, h2, h3, h4⟩
      · exact ⟨by simp, .inl ⟨rfl, rfl⟩⟩
      · have hX := E.bx A.length (b := g) (T := T) (cs := cs) (by simp)
        exact ⟨by rw [List.length_take, h4, Nat.min_eq_left (Nat.mul_le_mul_right _ h2)], .inr ⟨g, cap, cs.toArray, rfl, Nat.zero_le _, hX.2, h2, by unfold maxLen; omega, by simpa using h4, by simp⟩⟩
    have hby : (n + m) * b ≤ 140737488355328 := Nat.le_trans (Nat.mul_le_mul hb z5) (by decide)
    obtain ⟨v', W', hr, hown', hgrow, hnil, hat⟩ := run_append_own_at (P := Tryd.prog) W 0 sl ty T i0 z sz b hu hi0 z0 z1 z2 z3 z4 v n _ hown a m c news hnl hcell h1 (by unfold maxLen; omega) hby (Nat.zero_le _)
    refine ⟨v', W', hr, ?_⟩
    rcases hown'.2 with ⟨rfl, h0⟩ | ⟨g', cap', cur, rfl, _, hg, h2, h3, h4, h5⟩
    · have hn : v = .slice none 0 0 ∧ m = 0 := hnil.1 rfl
      obtain ⟨rfl, rfl⟩ := hn
      have hn0 : news = [] := List.length_eq_zero_iff.1 (hnl.trans (Nat.zero_mul _))
      subst hn0
      rcases hO with ⟨rfl, rfl, _, rfl⟩ | ⟨g, cap, rfl, h, _⟩
      · refine ⟨[], [], .inl ⟨rfl, rfl, rfl, rfl⟩, by simp, ?_, fun h => absurd rfl h⟩
        have hbw : Below W.heap.size W W' := ⟨hgrow.os, hgrow.tape, hgrow.output, hgrow.size, fun k hk => hgrow.block k hk (by simp [Value.ownBlock])⟩
        exact E.below hbw
      · cases h
    · have hfin : OS T sz [(g', T, cur.toList)] cur.toList (.slice (some ⟨g', 0, none⟩) (n + m) cap') (n + m) := .inr ⟨g', cap', rfl, rfl, h2, by unfold maxLen at h3; omega, by simpa using h4⟩
      have hlast : ∃ g'_1 cap'_1, [(g', T, cur.toList)] = [(g'_1, T, cur.toList)] ∧ Value.slice (some ⟨g', 0, none⟩) (n + m) cap' = .slice (some ⟨g'_1, 0, none⟩) (n + m) cap'_1 ∧ n + m ≤ cap'_1 ∧ cap'_1 ≤ 9223372036854775807 ∧ cur.toList.length = cap'_1 * sz := ⟨g', cap', rfl, rfl, h2, by unfold maxLen at h3; omega, by simpa using h4⟩
      refine ⟨[(g', T, cur.toList)], cur.toList, hfin, h5, ?_, fun _ => hlast⟩
      rcases hO with ⟨rfl, rfl, rfl, rfl⟩ | ⟨g, cap, rfl, rfl, e1, e2, e3⟩
      · have hbw : Below W.heap.size W W' := ⟨hgrow.os, hgrow.tape, hgrow.output, hgrow.size, fun k hk => hgrow.block k hk (by simp [Value.ownBlock])⟩
        have hgg : W.heap.size ≤ g' := by
          rcases hat with h | h <;> simp [Value.ownBlock] at h
          omega
        have E3 := E.gotBox hbw (g := g') (T := T) (cs := cur.toList) ⟨hgg, by rw [Array.toArray_toList]; exact hg⟩
        exact E3.perm (by rw [List.nil_append]; exact List.perm_middle.symm)
      · have hgg : g' = g ∨ W.heap.size ≤ g' := by
          rcases hat with h | h
          · simp [Value.ownBlock] at h; exact .inl h
          · simp [Value.ownBlock] at h; exact .inr (by omega)
        have hoff : Off g W W' := ⟨hgrow.os, hgrow.tape, hgrow.output, hgrow.size, fun k hk hne => hgrow.block k hk (by simp [Value.ownBlock]; omega)⟩
        have E3 := E.ins A.length (g := g) (T := T) (cs := cs) (by simp) hoff hgg (cs' := cur.toList) (by rw [Array.toArray_toList]; exact hg)
        have e : (A ++ ([(g, T, cs)] ++ B')).set A.length (g', T, cur.toList) = A ++ ([(g', T, cur.toList)] ++ B') := by simp
        rw [e] at E3; exact E3
/-- append of one element, as one operation of a region that draws -/
theorem op_app1 {sl T : TypeId} {sz : Nat} (ti : TI sl T sz) {o : Oper} {a : Act} {K : Act → World → Prop} {Q : Exit → Act → World → Prop} {EE : Prop} {ops : Array Oper} (d : Option Tmp) (hgd : o.guard = none) (hd : o.dst = d) (s x : Operand)
    (ho : o.op = .call { callee := .builtin .append, args := #[s, x], argTypes := #[sl, sl] })
    (E : Env D0 w F G W) (hF : F = A ++ (sg ++ B')) {n : Nat} (hO : OS T sz sg cs v n) (hs : a.eval s = v) {ad : Option Addr} {c : Nat} {news : List Value} (hx : a.eval x = .slice ad 1 c) (hsrc : SrcN sz W ad 1 news) (hb : n + 1 ≤ 1000000)
    (h : ∀ (g' cap' : Nat) (cs' : List Value) (W' : World), Hid (n + 1 ≤ cap' ∧ cap' ≤ 9223372036854775807 ∧ cs'.length = cap' * sz) → Hid (cs'.take ((n + 1) * sz) = cs.take (n * sz) ++ news) → Hid (Env D0 w (A ++ ((g', T, cs') :: B')) G W') → K (a.put d (.slice (some ⟨g', 0, none⟩) (n + 1) cap')) W') :
    if Region.wanted o (yielded ops a.tmps) = true then Oper.wp Tryd.prog o a W K Q else EE := by
  have hw : Region.wanted o (yielded ops a.tmps) = true := by simp [Region.wanted, hgd]
  rw [if_pos hw]
  subst hd
  obtain ⟨v', W', hr, sg', cs', h1, h2, h3, h4⟩ := app_run ti o.type E hF hO (c := c) hsrc hb
  obtain ⟨g', cap', rfl, rfl, h5⟩ := h4 (by omega)
  unfold Oper.wp execOp
  simp only [ho, resolve, invoke, builtin, Sem.run_bind, Sem.run_pure, Result.andThen_ok, List.map_toArray, List.map_cons, List.map_nil, hs, hx, hr]
  exact h g' cap' cs' W' (Lib.hid h5) (Lib.hid h2) (Lib.hid h3)
/-- append of some elements, as one operation of a region that draws -/
theorem op_appN {sl T : TypeId} {sz : Nat} (ti : TI sl T sz) {o : Oper} {a : Act} {K : Act → World → Prop} {Q : Exit → Act → World → Prop} {EE : Prop} {ops : Array Oper} (d : Option Tmp) (hgd : o.guard = none) (hd : o.dst = d) (s x : Operand)
    (ho : o.op = .call { callee := .builtin .append, args := #[s, x], argTypes := #[sl, sl] })
    (E : Env D0 w F G W) (hF : F = A ++ (sg ++ B')) {n : Nat} (hO : OS T sz sg cs v n) (hs : a.eval s = v) {ad : Option Addr} {m c : Nat} {news : List Value} (hx : a.eval x = .slice ad m c) (hsrc : SrcN sz W ad m news) (hb : n + m ≤ 1000000)
    (h : ∀ (sg' : List Bx) (v' : Value) (cs' : List Value) (W' : World), Hid (OS T sz sg' cs' v' (n + m)) → Hid (cs'.take ((n + m) * sz) = cs.take (n * sz) ++ news) → Hid (Env D0 w (A ++ (sg' ++ B')) G W') → K (a.put d v') W') :
    if Region.wanted o (yielded ops a.tmps) = true then Oper.wp Tryd.prog o a W K Q else EE := by
  have hw : Region.wanted o (yielded ops a.tmps) = true := by simp [Region.wanted, hgd]
  rw [if_pos hw]
  subst hd
  obtain ⟨v', W', hr, sg', cs', h1, h2, h3, h4⟩ := app_run ti o.type E hF hO (c := c) hsrc hb
  unfold Oper.wp execOp
  simp only [ho, resolve, invoke, builtin, Sem.run_bind, Sem.run_pure, Result.andThen_ok, List.map_toArray, List.map_cons, List.map_nil, hs, hx, hr]
  exact h sg' v' cs' W' (Lib.hid h1) (Lib.hid h2) (Lib.hid h3)
/-- the same in a list of operations -/
theorem wpl_appN {sl T : TypeId} {sz : Nat} (ti : TI sl T sz) {ops : Array Oper} {rest : List Oper} {o : Oper} {a : Act} {Q : Exit → Act → World → Prop} (hgd : o.guard = none) (s x : Operand)
    (ho : o.op = .call { callee := .builtin .append, args := #[s, x], argTypes := #[sl, sl] })
    (E : Env D0 w F G W) (hF : F = A ++ (sg ++ B')) {n : Nat} (hO : OS T sz sg cs v n) (hs : a.eval s = v) {ad : Option Addr} {m c : Nat} {news : List Value} (hx : a.eval x = .slice ad m c) (hsrc : SrcN sz W ad m news) (hb : n + m ≤ 1000000)
    (h : ∀ (sg' : List Bx) (v' : Value) (cs' : List Value) (W' : World), Hid (OS T sz sg' cs' v' (n + m)) → Hid (cs'.take ((n + m) * sz) = cs.take (n * sz) ++ news) → Hid (Env D0 w (A ++ (sg' ++ B')) G W') → wpList Tryd.prog ops Q rest (a.put o.dst v') W') :
    wpList Tryd.prog ops Q (o :: rest) a W := by
  refine wpList_plain hgd fun K hK => ?_
  obtain ⟨v', W', hr, sg', cs', h1, h2, h3, h4⟩ := app_run ti o.type E hF hO (c := c) hsrc hb
  unfold Oper.wp execOp
  simp only [ho, resolve, invoke, builtin, Sem.run_bind, Sem.run_pure, Result.andThen_ok, List.map_toArray, List.map_cons, List.map_nil, hs, hx, hr]
  exact hK _ _ (h sg' v' cs' W' (Lib.hid h1) (Lib.hid h2) (Lib.hid h3))
/-- a row of the call's own, as a caller reads it -/
theorem OS.rw {T : TypeId} {k n : Nat} (h : OS T k sg cs v n) (E : Env D0 w F G W) (hs : ∀ p ∈ sg, p ∈ F) {xs : List Value} (ht : cs.take (n * k) = xs) (h1 : ∀ u ∈ xs, u.oneCell' = true) : Fct.at W (fun b => D0 b ∨ w.heap.size ≤ b) (.rw v n k xs) := by
  rcases h with ⟨rfl, rfl, rfl, rfl⟩ | ⟨g, cap, rfl, rfl, e1, e2, e3⟩
  · simp at ht; subst ht; exact Rw.nil _ _ _
  · have hB := (held_iff.1 E.box).1 (g, T, cs) (hs _ (by simp))
    refine ⟨_, cap, rfl, e1, e2, by rw [← ht, List.length_take, e3, Nat.min_eq_left (Nat.mul_le_mul_right _ e1)], h1, fun _ => ⟨g, 0, rfl, ⟨hB.lt, .inr hB.1⟩, fun i u hu => ?_⟩⟩
    rw [Nat.zero_add]
    rw [← ht, List.getElem?_take] at hu
    split at hu
    · exact hB.cell _ hu
    · cases hu
/-- one int more -/
theorem OI.app {x : Int} {l : List Int} {cs' : List Value} {g' cap' n : Nat} (hL : OI sg cs v l) (en : l.length = n) (h : n + 1 ≤ cap' ∧ cap' ≤ 9223372036854775807 ∧ cs'.length = cap' * 1) (ht : cs'.take ((n + 1) * 1) = cs.take (n * 1) ++ [.int .i64 x]) : OI [(g', 3, cs')] cs' (.slice (some ⟨g', 0, none⟩) (n + 1) cap') (l ++ [x]) := by
  subst en
  refine ⟨.inr ⟨g', cap', rfl, by simp, by simpa using h.1, h.2.1, h.2.2⟩, ?_⟩
  have := hL.2
  simp only [Nat.mul_one] at ht
  rw [List.length_append, List.length_singleton, ht, this]; simp [icl]
theorem OI.os {l : List Int} {n : Nat} (h : OI sg cs v l) (en : l.length = n) : OS 3 1 sg cs v n := en ▸ h.1
theorem Rw.addr {W : World} {D : Nat → Prop} {a : Option Addr} {n c k : Nat} {cs : List Value} (h : Rw W D (.slice a n c) n k cs) (hn : n ≠ 0) : ∃ b o, a = some ⟨b, o, none⟩ := by
  obtain ⟨b, o, j, e⟩ := h.open hn
  simp only [Value.slice.injEq] at e
  exact ⟨b, o, e.1⟩
theorem DF.segs {D0 : Nat → Prop} {B : Nat} {S : List Bx} {b : Nat} (h : DF D0 B (A ++ S) b) : (D0 b ∨ B ≤ b) ∧ ∀ p ∈ S, p.1 ≠ b := ⟨h.2, fun p hp => h.1 p (by simp [hp])⟩
/-- a fact, told without the segments' blocks -/
theorem Env.outS {S : List Bx} (E : Env D0 w (A ++ S) G W) (i : Nat) {f : Fct} (e : G[i]? = some f) : Fct.at W (fun b => (D0 b ∨ w.heap.size ≤ b) ∧ ∀ p ∈ S, p.1 ≠ b) f := Fct.turn (E.fct.get i e) (Nat.le_refl _) (fun _ _ h => DF.segs h) (fun _ _ _ _ => rfl)
theorem Env.heldS {S : List Bx} (E : Env D0 w (A ++ S) G W) : HeldF w.heap.size S W := by
  have h := held_iff.1 E.box
  exact held_iff.2 ⟨fun p hp => h.1 p (by simp [hp]), (List.pairwise_append.1 h.2).2.1⟩
theorem icl_rep (n : Nat) : icl (List.replicate n 0) = List.replicate n (.int .i64 0) := by unfold icl; simp
theorem icl_set (l : List Int) (k : Nat) (v : Int) : (icl l).set k (.int .i64 v) = icl (l.set k v) := by unfold icl; simp [List.map_set]
theorem wpl_makeI {D0 : Nat → Prop} {w W : World} {F : List Bx} {G : List Fct} {ops : Array Oper} {rest : List Oper} {o : Oper} {a : Act} {Q : Exit → Act → World → Prop}
    (hg : o.guard = none) (l c : Operand) (hop : o.op = Op.makeSlice 22 l c) (E : Env D0 w F G W) (n : Nat) (hl : a.eval l = .int .i64 (n : Int)) (hc : a.eval c = .int .i64 (n : Int)) (hn : n ≤ 1000000)
    (hK : ∀ W' g, Hid (Env D0 w ((g, 3, icl (List.replicate n 0)) :: F) G W') → wpList Tryd.prog ops Q rest (a.put o.dst (.slice (some ⟨g, 0, none⟩) n n)) W') :
    wpList Tryd.prog ops Q (o :: rest) a W := by
  obtain ⟨i0, hi, hz0, hz1, hz2⟩ := info_parts Tryd.infoInt
  refine wpList_make_full W hg l c 22 hop 0 3 i0 (.int .i64 0) 1 Tryd.underlying22 hi hz0 hz1 .i64 .i64 n n n hl hc rfl rfl (by rw [hz2]; omega) (by unfold maxLen; omega) (Nat.zero_le _) fun W' hown hgrow => ?_
  refine hK W' _ (Lib.hid ?_)
  have hbw : Below W.heap.size W W' := ⟨hgrow.os, hgrow.tape, hgrow.output, hgrow.size, fun k hk => hgrow.block k hk (by simp)⟩
  rcases hown.2 with ⟨h0, _⟩ | ⟨g', cap', cur, e, _, hg', h2, h3, h4, h5⟩
  · cases h0
  · simp only [Value.slice.injEq, Option.some.injEq, Addr.mk.injEq] at e
    obtain ⟨⟨rfl, _⟩, _, rfl⟩ := e
    have hcs : cur.toList = icl (List.replicate n 0) := by
      have e1 : (madeCells (Value.int .i64 0).cells (n * 1)).toList = List.replicate n (Value.int .i64 0) := by
        rw [Nat.mul_one]; exact toList_madeCells_one _ _
      rw [e1, List.take_of_length_le (by simp [h4])] at h5
      rw [icl_rep]; exact h5
    have E3 := E.gotBox hbw (g := W.heap.size) (T := 3) (cs := cur.toList) ⟨Nat.le_refl _, by rw [Array.toArray_toList]; exact hg'⟩
    rw [hcs] at E3
    exact E3
set_option linter.unusedSimpArgs false
theorem wpl_app1 {D0 : Nat → Prop} {w W : World} {F A B' sg : List Bx} {G : List Fct} {cs : List Value} {v : Value} {sl T : TypeId} {sz : Nat} (ti : TI sl T sz) {ops : Array Oper} {rest : List Oper} {o : Oper} {a : Act} {Q : Exit → Act → World → Prop} (hgd : o.guard = none) (s x : Operand)
    (ho : o.op = .call { callee := .builtin .append, args := #[s, x], argTypes := #[sl, sl] })
    (E : Env D0 w F G W) (hF : F = A ++ (sg ++ B')) {n : Nat} (hO : OS T sz sg cs v n) (hs : a.eval s = v) {ad : Option Addr} {c : Nat} {news : List Value} (hx : a.eval x = .slice ad 1 c) (hsrc : SrcN sz W ad 1 news) (hb : n + 1 ≤ 1000000)
    (h : ∀ (g' cap' : Nat) (cs' : List Value) (W' : World), Hid (n + 1 ≤ cap' ∧ cap' ≤ 9223372036854775807 ∧ cs'.length = cap' * sz) → Hid (cs'.take ((n + 1) * sz) = cs.take (n * sz) ++ news) → Hid (Env D0 w (A ++ ((g', T, cs') :: B')) G W') → wpList Tryd.prog ops Q rest (a.put o.dst (.slice (some ⟨g', 0, none⟩) (n + 1) cap')) W') :
    wpList Tryd.prog ops Q (o :: rest) a W := by
  refine wpList_plain hgd fun K hK => ?_
  obtain ⟨v', W', hr, sg', cs', h1, h2, h3, h4⟩ := app_run ti o.type E hF hO (c := c) hsrc hb
  obtain ⟨g', cap', rfl, rfl, h5⟩ := h4 (by omega)
  unfold Oper.wp execOp
  simp only [ho, resolve, invoke, builtin, Sem.run_bind, Sem.run_pure, Result.andThen_ok, List.map_toArray, List.map_cons, List.map_nil, hs, hx, hr]
  exact hK _ _ (h g' cap' cs' W' (Lib.hid h5) (Lib.hid h2) (Lib.hid h3))
/-- rows of ints lie at nil, or begin somewhere -/
theorem Mx.addr {W : World} {D : Nat → Prop} {a : Option Addr} {n c k : Nat} {L : List (List Int)} (h : Mx W D (.slice a n c) L) (hk : k < L.length) : ∃ b o, a = some ⟨b, o, none⟩ := by
  obtain ⟨ao, cap, h1, _, _, h4⟩ := h
  obtain ⟨b, off, rfl, _⟩ := h4 (by rintro rfl; simp at hk)
  simp only [Value.slice.injEq] at h1
  exact ⟨b, off, h1.1⟩
/-- a row opened: its slice's cell, and what it reads as -/
theorem Env.elM {D0 : Nat → Prop} {w W : World} {F : List Bx} {G : List Fct} (h : Env D0 w F G W) (i : Nat) {b off n j : Nat} {L : List (List Int)} (e : G[i]? = some (.mx (.slice (some ⟨b, off, none⟩) n j) L)) (k : Nat) (hk : k < L.length) :
    ∃ va vk, Env D0 w F (.ce b (off + k) (.slice va L[k].length vk) :: .rw (.slice va L[k].length vk) L[k].length 1 (icl L[k]) :: G) W := by
  obtain ⟨ao, cap, h1, _, _, h4⟩ : Mx W (DF D0 w.heap.size F) (.slice (some ⟨b, off, none⟩) n j) L := h.fct.get i e
  obtain ⟨b', off', k1, k2, k3⟩ := h4 (by rintro rfl; simp at hk)
  simp only [Value.slice.injEq] at h1
  obtain ⟨h1, _, _⟩ := h1
  subst h1
  simp only [Option.some.injEq, Addr.mk.injEq, and_true] at k1
  obtain ⟨rfl, rfl⟩ := k1
  obtain ⟨rv, r1, r2⟩ := k3 k _ (List.getElem?_eq_getElem hk)
  obtain ⟨va, vk, rfl⟩ := r2.len
  exact ⟨va, vk, (h.note (.rw _ _ _ _) r2).note (.ce _ _ _) ⟨k2, r1⟩⟩
/-- rows in a box of the walk's own, for a callee that only reads -/
theorem Mx.ofBox {W : World} {B g : Nat} {T : TypeId} {cs : List Value} {L : List (List Int)} {cap : Nat} (hB : Box B g T cs W) (h1 : L.length ≤ cap) (h2 : cap ≤ 9223372036854775807) (hr : ∀ (i : Nat) l, L[i]? = some l → ∃ rv, cs[i]? = some rv ∧ Rw W (fun _ => True) rv l.length 1 (icl l)) : Mx W (fun _ => True) (.slice (some ⟨g, 0, none⟩) L.length cap) L :=
  ⟨some ⟨g, 0, none⟩, cap, rfl, h1, h2, fun _ => ⟨g, 0, rfl, ⟨hB.lt, trivial⟩, fun i l hi => by
    obtain ⟨rv, r1, r2⟩ := hr i l hi
    exact ⟨rv, by rw [Nat.zero_add]; exact hB.cell i r1, r2⟩⟩⟩
end Go.Proofs.YteipbcpnnojclaaDoor

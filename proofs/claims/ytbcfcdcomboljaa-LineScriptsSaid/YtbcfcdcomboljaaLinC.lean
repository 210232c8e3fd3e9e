/- line: its data; rows of ints and of fates; their copies; lists of the call's own. -/
import Derived.Test.YtbcfcdcomboljaaLinI
import Derived.Test.YtbcfcdcomboljaaLinD
import Derived.Test.YtbcfcdcomboljaaLinDi
import Derived.Test.YtbcfcdcomboljaaLinB
import Derived.Test.YtbcfcdcomboljaaLinShelf
import Derived.Test.YtbcfcdcomboljaaSesLs
namespace Go.Proofs.Ytbcfcdcomboljaa
open Go.RowKit
set_option linter.unusedVariables false
theorem infoK_openInt : ∃ i0, Try.prog.info? 3 = some i0 ∧ i0.zero = some (Value.int .i64 0) ∧ i0.size = 1 ∧ i0.bytes = 8 := by
  have : (Try.prog.info? 3).map (fun i => (i.zero, i.size, i.bytes)) = some (some (Value.int .i64 0), 1, 8) := by kernel_rfl
  cases hh : Try.prog.info? 3 with
  | none => rw [hh] at this; simp at this
  | some i => rw [hh] at this; simp only [Option.map_some, Option.some.injEq, Prod.mk.injEq] at this; exact ⟨i, rfl, this⟩
set_option maxHeartbeats 2000000 in
set_option maxRecDepth 100000 in
/-- slices.Clone of a list of no element that is not nil, whatever its address -/
theorem clone_zeroInt {a : Addr} {c : Nat} {w : World} : Calls Try.prog 83 #[.slice (some a) 0 c] w fun e w' => (∃ v', e = .returned v' ∧ w'.ownsRow w.heap.size 3 1 v' 0 []) ∧ Below w.heap.size w w' := by
  obtain ⟨i0, hi0, z0, z1, z2⟩ := infoK_openInt
  have HI := Lib.hid hi0
  have Z0 := Lib.hid z0; have Z1 := Lib.hid z1; have Z2 := Lib.hid z2
  clear hi0 z0 z1 z2
  have q22 : ∀ (w : World) (a : Option Addr) (n c n' c' : Nat), (binOp .eql 62 (.slice a n c) (.slice none n' c')).run Try.prog w = .ok (.bool a.isNone) w := fun w a n c n' c' => Lib.run_eql_slice_nil w _ _ a n c n' c' Try.underlying62
  go_enter Try.func83, Try.ntmps83
  go_wp2_with (at_builtin; refine wpList_append_own _ rfl _ _ 62 rfl w.heap.size 3 i0 ((Value.int .i64 0)) 1 8 Try.underlying62 HI.out Z0.out Z1.out Z2.out rfl (by omega) _ _ _ rfl (World.ownsRow_made w #[] 0 (Nat.le_refl _) (Nat.zero_le _) (by simp)) a 0 c [] rfl ?qc1 ?qc2 ?qc3 ?qc4 ?qc5 ?qc6 ?_)
  case qc1 => rfl
  case qc2 => intro j u hj; simp at hj
  case qc3 => intro u hu; simp at hu
  case qc4 => unfold maxLen; omega
  case qc5 => omega
  case qc6 => simp
  intro v' w1 hown hgrow hnil
  have HG := Lib.hid hgrow
  have HO : Hid (w1.ownsRow w.heap.size 3 1 v' 0 []) := Lib.hid (by simpa using hown)
  rcases hown.2 with ⟨rfl, _⟩ | ⟨g, cap, cur, rfl, _, _, _, _, _, _⟩
  all_goals
    clear hgrow hown hnil
    go_wp2
    go_ret
    exact ⟨⟨_, rfl, HO.out⟩, ((Below.refl _ w).alloc (Nat.le_refl _) _).grown HG.out (by simp) (by intro k hk; simp [Value.ownBlock] at hk; omega)⟩
theorem cloneRInt {D : Nat → Prop} {v : Value} {n : Nat} {xs : List Value} {w : World} (h : Rw w D v n 1 xs) (hl : n ≤ 1000000) :
    Calls Try.prog 83 #[v] w fun e w' => (∃ v', e = .returned v' ∧ w'.ownsRow w.heap.size 3 1 v' n xs) ∧ Below w.heap.size w w' := by
  obtain ⟨ao, cap, rfl, h1, h2, h3, h4, h5⟩ := h
  obtain ⟨i0, hi0, z0, z1, z2⟩ := infoK_openInt
  by_cases hn : n = 0
  · subst hn
    have hx : xs = [] := List.length_eq_zero_iff.1 (h3.trans (Nat.zero_mul _))
    subst hx
    cases ao with
    | none =>
      refine (AnyE.slices_Clone_nil Try.laysCloneI _ _ w).mono ?_
      rintro e w' ⟨rfl, rfl⟩
      exact ⟨⟨_, rfl, rfl, .inl ⟨rfl, rfl⟩⟩, Below.refl _ _⟩
    | some a => exact clone_zeroInt
  · obtain ⟨b, off, rfl, ⟨hb, hd⟩, hc⟩ := h5 hn
    refine (AnyE.slices_Clone Try.laysCloneI i0 ((Value.int .i64 0)) 1 8 hi0 z0 z1 z2 rfl (by omega) Try.sizeOf3 b off n cap xs w h3 (by unfold maxLen; omega) (by omega) (fun j u hj => hc j u hj) h4).mono ?_
    rintro e w' ⟨v', rfl, ho, _, hb⟩
    exact ⟨⟨v', rfl, ho⟩, hb⟩
theorem infoK_openFat : ∃ i0, Try.prog.info? 72 = some i0 ∧ i0.zero = some (Value.agg #[.int .i64 0, .int .i64 0]) ∧ i0.size = 2 ∧ i0.bytes = 16 := by
  have : (Try.prog.info? 72).map (fun i => (i.zero, i.size, i.bytes)) = some (some (Value.agg #[.int .i64 0, .int .i64 0]), 2, 16) := by kernel_rfl
  cases hh : Try.prog.info? 72 with
  | none => rw [hh] at this; simp at this
  | some i => rw [hh] at this; simp only [Option.map_some, Option.some.injEq, Prod.mk.injEq] at this; exact ⟨i, rfl, this⟩
set_option maxHeartbeats 2000000 in
set_option maxRecDepth 100000 in
/-- slices.Clone of a list of no element that is not nil, whatever its address -/
theorem clone_zeroFat {a : Addr} {c : Nat} {w : World} : Calls Try.prog 59 #[.slice (some a) 0 c] w fun e w' => (∃ v', e = .returned v' ∧ w'.ownsRow w.heap.size 72 2 v' 0 []) ∧ Below w.heap.size w w' := by
  obtain ⟨i0, hi0, z0, z1, z2⟩ := infoK_openFat
  have HI := Lib.hid hi0
  have Z0 := Lib.hid z0; have Z1 := Lib.hid z1; have Z2 := Lib.hid z2
  clear hi0 z0 z1 z2
  have q22 : ∀ (w : World) (a : Option Addr) (n c n' c' : Nat), (binOp .eql 59 (.slice a n c) (.slice none n' c')).run Try.prog w = .ok (.bool a.isNone) w := fun w a n c n' c' => Lib.run_eql_slice_nil w _ _ a n c n' c' Try.underlying59
  go_enter Try.func59, Try.ntmps59
  go_wp2_with (at_builtin; refine wpList_append_own _ rfl _ _ 59 rfl w.heap.size 72 i0 ((Value.agg #[.int .i64 0, .int .i64 0])) 2 16 Try.underlying59 HI.out Z0.out Z1.out Z2.out rfl (by omega) _ _ _ rfl (World.ownsRow_made w #[] 0 (Nat.le_refl _) (Nat.zero_le _) (by simp)) a 0 c [] rfl ?qc1 ?qc2 ?qc3 ?qc4 ?qc5 ?qc6 ?_)
  case qc1 => rfl
  case qc2 => intro j u hj; simp at hj
  case qc3 => intro u hu; simp at hu
  case qc4 => unfold maxLen; omega
  case qc5 => omega
  case qc6 => simp
  intro v' w1 hown hgrow hnil
  have HG := Lib.hid hgrow
  have HO : Hid (w1.ownsRow w.heap.size 72 2 v' 0 []) := Lib.hid (by simpa using hown)
  rcases hown.2 with ⟨rfl, _⟩ | ⟨g, cap, cur, rfl, _, _, _, _, _, _⟩
  all_goals
    clear hgrow hown hnil
    go_wp2
    go_ret
    exact ⟨⟨_, rfl, HO.out⟩, ((Below.refl _ w).alloc (Nat.le_refl _) _).grown HG.out (by simp) (by intro k hk; simp [Value.ownBlock] at hk; omega)⟩
theorem cloneRFat {D : Nat → Prop} {v : Value} {n : Nat} {xs : List Value} {w : World} (h : Rw w D v n 2 xs) (hl : n ≤ 1000000) :
    Calls Try.prog 59 #[v] w fun e w' => (∃ v', e = .returned v' ∧ w'.ownsRow w.heap.size 72 2 v' n xs) ∧ Below w.heap.size w w' := by
  obtain ⟨ao, cap, rfl, h1, h2, h3, h4, h5⟩ := h
  obtain ⟨i0, hi0, z0, z1, z2⟩ := infoK_openFat
  by_cases hn : n = 0
  · subst hn
    have hx : xs = [] := List.length_eq_zero_iff.1 (h3.trans (Nat.zero_mul _))
    subst hx
    cases ao with
    | none =>
      refine (AnyE.slices_Clone_nil Try.laysCloneF _ _ w).mono ?_
      rintro e w' ⟨rfl, rfl⟩
      exact ⟨⟨_, rfl, rfl, .inl ⟨rfl, rfl⟩⟩, Below.refl _ _⟩
    | some a => exact clone_zeroFat
  · obtain ⟨b, off, rfl, ⟨hb, hd⟩, hc⟩ := h5 hn
    refine (AnyE.slices_Clone Try.laysCloneF i0 ((Value.agg #[.int .i64 0, .int .i64 0])) 2 16 hi0 z0 z1 z2 rfl (by omega) Try.sizeOf72 b off n cap xs w h3 (by unfold maxLen; omega) (by omega) (fun j u hj => hc j u hj) h4).mono ?_
    rintro e w' ⟨v', rfl, ho, _, hb⟩
    exact ⟨⟨v', rfl, ho⟩, hb⟩
/-- a line: the time, the messages under way, their times, the fates of the next ones -/
structure Lin where
  nw : Int
  L : List Msg
  ats : List Int
  ft : List (Int × Int)
def icl (l : List Int) : List Value := l.map (Value.int .i64)
def fcl : List (Int × Int) → List Value
  | [] => []
  | p :: r => .int .i64 p.1 :: .int .i64 p.2 :: fcl r
theorem icl_len (l : List Int) : (icl l).length = l.length * 1 := by simp [icl]
theorem fcl_len : ∀ l : List (Int × Int), (fcl l).length = l.length * 2
  | [] => rfl
  | p :: r => by simp only [fcl, List.length_cons, fcl_len r]; omega
theorem icl_get (l : List Int) (i : Nat) (h : i < l.length) : (icl l)[i]? = some (.int .i64 l[i]) := by simp [icl, List.getElem?_eq_getElem h]
theorem fcl_get : ∀ (l : List (Int × Int)) (i : Nat) (h : i < l.length), (fcl l)[i * 2]? = some (.int .i64 l[i].1) ∧ (fcl l)[i * 2 + 1]? = some (.int .i64 l[i].2)
  | p :: r, 0, _ => ⟨rfl, rfl⟩
  | p :: r, i + 1, h => by
    have := fcl_get r i (by simpa using h)
    rw [show (i + 1) * 2 = i * 2 + 1 + 1 by omega]
    simpa [fcl] using this
theorem icl_one (l : List Int) : ∀ u ∈ icl l, u.oneCell' = true := by intro u hu; obtain ⟨x, _, rfl⟩ := List.mem_map.1 hu; rfl
theorem fcl_one : ∀ (l : List (Int × Int)), ∀ u ∈ fcl l, u.oneCell' = true
  | [], u, hu => by cases hu
  | p :: r, u, hu => by
    simp only [fcl, List.mem_cons] at hu
    rcases hu with rfl | rfl | hu
    · rfl
    · rfl
    · exact fcl_one r u hu
theorem Rw.open {W : World} {D : Nat → Prop} {v : Value} {n k : Nat} {cs : List Value} (h : Rw W D v n k cs) (hn : n ≠ 0) : ∃ b off j, v = .slice (some ⟨b, off, none⟩) n j := by
  obtain ⟨ao, cap, h1, _, _, _, _, h6⟩ := h
  obtain ⟨b, off, rfl, _⟩ := h6 hn
  exact ⟨b, off, cap, h1⟩
theorem Rw.el {W : World} {D : Nat → Prop} {b off n j k : Nat} {cs : List Value} (h : Rw W D (.slice (some ⟨b, off, none⟩) n j) n k cs) (hn : n ≠ 0) {i : Nat} {u : Value} (hu : cs[i]? = some u) : (b < W.heap.size ∧ D b) ∧ W.cell? ⟨b, off + i, none⟩ = some u := by
  obtain ⟨ao, cap, h1, _, _, _, _, h6⟩ := h
  obtain ⟨b', off', k1, k2, k3⟩ := h6 hn
  simp only [Value.slice.injEq] at h1
  obtain ⟨h1, _, _⟩ := h1
  subst h1
  simp only [Option.some.injEq, Addr.mk.injEq, and_true] at k1
  obtain ⟨rfl, rfl⟩ := k1
  exact ⟨k2, k3 i u hu⟩
/-- the cell of an int of a row -/
theorem Env.elI {D0 : Nat → Prop} {w W : World} {F : List Bx} {G : List Fct} (h : Env D0 w F G W) (i : Nat) {b off n j : Nat} {l : List Int} (e : G[i]? = some (.rw (.slice (some ⟨b, off, none⟩) n j) n 1 (icl l))) (hn : n = l.length) (k : Nat) (hk : k < l.length) : Env D0 w F (.ce b (off + k) (.int .i64 l[k]) :: G) W := by
  have hm : Rw W (DF D0 w.heap.size F) (.slice (some ⟨b, off, none⟩) n j) n 1 (icl l) := h.fct.get i e
  exact h.note _ (hm.el (by omega) (icl_get l k hk))
/-- the cells of a fate of a row -/
theorem Env.elF {D0 : Nat → Prop} {w W : World} {F : List Bx} {G : List Fct} (h : Env D0 w F G W) (i : Nat) {b off n j : Nat} {l : List (Int × Int)} (e : G[i]? = some (.rw (.slice (some ⟨b, off, none⟩) n j) n 2 (fcl l))) (hn : n = l.length) (k : Nat) (hk : k < l.length) : Env D0 w F (.ce b (off + k * 2) (.int .i64 l[k].1) :: .ce b (off + k * 2 + 1) (.int .i64 l[k].2) :: G) W := by
  have hm : Rw W (DF D0 w.heap.size F) (.slice (some ⟨b, off, none⟩) n j) n 2 (fcl l) := h.fct.get i e
  have := fcl_get l k hk
  exact (h.note (.ce _ _ _) (hm.el (by omega) this.2)).note (.ce _ _ _) (hm.el (by omega) this.1)
/-- a row of the call's own: nil, or a box -/
def OS (T : TypeId) (sz : Nat) (sg : List Bx) (cs : List Value) (v : Value) (n : Nat) : Prop :=
  (sg = [] ∧ cs = [] ∧ v = .slice none 0 0 ∧ n = 0) ∨ ∃ g cap, sg = [(g, T, cs)] ∧ v = .slice (some ⟨g, 0, none⟩) n cap ∧ n ≤ cap ∧ cap ≤ 9223372036854775807 ∧ cs.length = cap * sz
theorem OS.len {T : TypeId} {sz : Nat} {sg : List Bx} {cs : List Value} {v : Value} {n : Nat} (h : OS T sz sg cs v n) : ∃ a c, v = .slice a n c := by
  rcases h with ⟨_, _, rfl, rfl⟩ | ⟨g, cap, _, rfl, _⟩
  · exact ⟨none, 0, rfl⟩
  · exact ⟨_, _, rfl⟩
/-- a list of ints of the call's own -/
def OI (sg : List Bx) (cs : List Value) (v : Value) (l : List Int) : Prop := OS 3 1 sg cs v l.length ∧ cs.take l.length = icl l
theorem OI.nil : OI [] [] (.slice none 0 0) [] := ⟨.inl ⟨rfl, rfl, rfl, rfl⟩, rfl⟩
theorem Rw.ofOwns {T : TypeId} {B n k : Nat} {v : Value} {cs : List Value} {W : World} (h : W.ownsRow B T k v n cs) (h1 : ∀ u ∈ cs, u.oneCell' = true) : Rw W (fun b => B ≤ b) v n k cs := by
  rcases h.2 with ⟨rfl, rfl⟩ | ⟨g, cap, cur, rfl, hb, hg, hn, hm, hs, ht⟩
  · have : cs = [] := List.length_eq_zero_iff.1 (by rw [h.1]; omega)
    subst this; exact Rw.nil _ _ _
  · refine ⟨_, cap, rfl, hn, by unfold maxLen at hm; omega, h.1, h1, fun _ => ⟨g, 0, rfl, ⟨lt_of_block hg, hb⟩, fun i u hu => ?_⟩⟩
    rw [cell_of_row W g (0 + i) cur T (0, 0) hg, Nat.zero_add]
    rw [← ht, List.getElem?_take] at hu
    split at hu
    · simpa using hu
    · cases hu
theorem OI.ofOwns {B : Nat} {v : Value} {l : List Int} {W : World} (h : W.ownsRow B 3 1 v l.length (icl l)) : ∃ sg cs, OI sg cs v l ∧ HeldF B sg W := by
  rcases h.2 with ⟨rfl, h0⟩ | ⟨g, cap, cur, rfl, hb, hg, hn, hm, hs, ht⟩
  · have : l = [] := List.length_eq_zero_iff.1 h0
    subst this; exact ⟨[], [], OI.nil, trivial⟩
  · exact ⟨_, cur.toList, ⟨.inr ⟨g, cap, rfl, rfl, hn, by unfold maxLen at hm; omega, by simpa using hs⟩, by simpa using ht⟩, ⟨hb, by rw [Array.toArray_toList]; exact hg⟩, by simp, trivial⟩
/-- slices.Clone of ints: a list of the call's own -/
theorem cloneI_own {D : Nat → Prop} {v : Value} {l : List Int} {w : World} (h : Fct.at w D (.rw v l.length 1 (icl l))) (hl : l.length ≤ 1000000) :
    Calls Try.prog 83 #[v] w fun e w' => (∃ sg cs v', e = .returned v' ∧ Hid (OI sg cs v' l) ∧ Hid (HeldF w.heap.size sg w')) ∧ Below w.heap.size w w' :=
  (cloneRInt h hl).mono fun e w' ⟨⟨v', h1, h2⟩, hb⟩ => by
    obtain ⟨sg, cs, h3, h4⟩ := OI.ofOwns h2
    exact ⟨⟨sg, cs, v', h1, Lib.hid h3, Lib.hid h4⟩, hb⟩
/-- slices.Clone of fates -/
theorem cloneF_c {D : Nat → Prop} {v : Value} {l : List (Int × Int)} {w : World} (h : Fct.at w D (.rw v l.length 2 (fcl l))) (hl : l.length ≤ 1000000) :
    Calls Try.prog 59 #[v] w fun e w' => (∃ ao k, e = .returned (.slice ao l.length k) ∧ Hid (Rw w' (fun b => D b ∨ w.heap.size ≤ b) (.slice ao l.length k) l.length 2 (fcl l))) ∧ Below w.heap.size w w' :=
  (cloneRFat h hl).mono fun e w' ⟨⟨v', h1, h2⟩, hb⟩ => by
    have h3 := Rw.ofOwns h2 (fcl_one l)
    obtain ⟨ao, k, rfl⟩ := h3.len
    exact ⟨⟨ao, k, h1, Lib.hid (h3.turn (Nat.le_refl _) (fun _ _ h => .inr h) (fun _ _ _ _ => rfl))⟩, hb⟩
theorem HeldF.app {B : Nat} : ∀ {F S : List Bx} {W : World}, HeldF B F W → HeldF B S W → (∀ p ∈ F, ∀ q ∈ S, q.1 ≠ p.1) → HeldF B (F ++ S) W
  | [], S, W, _, h, _ => h
  | p :: F, S, W, h, h2, hne => ⟨h.1, fun q hq => by
      rcases List.mem_append.1 hq with hq | hq
      · exact h.2.1 q hq
      · exact hne p (by simp) q hq, HeldF.app h.2.2 h2 (fun p hp => hne p (by simp [hp]))⟩
theorem HeldF.lower {B B' : Nat} (hB : B' ≤ B) : ∀ {F : List Bx} {W : World}, HeldF B F W → HeldF B' F W
  | [], _, _ => trivial
  | p :: F, W, h => ⟨⟨Nat.le_trans hB h.1.1, h.1.2⟩, h.2.1, HeldF.lower hB h.2.2⟩
theorem HeldF.ge {B : Nat} : ∀ {F : List Bx} {W : World}, HeldF B F W → ∀ p ∈ F, B ≤ p.1
  | [], _, _, p, hp => by cases hp
  | q :: F, W, h, p, hp => by
    rcases List.mem_cons.1 hp with rfl | hp
    · exact h.1.1
    · exact HeldF.ge h.2.2 p hp
/-- boxes that came back: they stand at the end of the walk's -/
theorem Env.gotSeg {D0 : Nat → Prop} {w W W' : World} {F S : List Bx} {G : List Fct} (h : Env D0 w F G W) (hb : Below W.heap.size W W') (hS : HeldF W.heap.size S W') : Env D0 w (F ++ S) G W' := by
  have h' := h.below hb
  refine ⟨h'.bel, h'.box.app (hS.lower h.bel.size) (fun p hp q hq e => by have := h.box.old p hp; have := hS.ge q hq; omega), ?_⟩
  refine h.fct.turn hb.size (fun b hl hd => ⟨fun p hp => ?_, hd.2⟩) (fun b i hl _ => hb.cell (p := ⟨b, i, none⟩) hl)
  rcases List.mem_append.1 hp with hp | hp
  · exact hd.1 p hp
  · have := hS.ge p hp; omega
/-- a fact that came back beside boxes -/
theorem Env.gotSegF {D0 : Nat → Prop} {w W W' : World} {F S : List Bx} {G G' : List Fct} (h : Env D0 w F G W) (h' : Env D0 w (F ++ S) G' W') (f : Fct) (hf : f.at W' (fun b => (DF D0 w.heap.size F b ∨ W.heap.size ≤ b) ∧ ∀ p ∈ S, p.1 ≠ b)) : Env D0 w (F ++ S) (f :: G') W' :=
  h'.note f (Fct.turn hf (Nat.le_refl _) (fun b _ hd => by
    obtain ⟨hd, hne⟩ := hd
    have hall : (∀ p ∈ F, p.1 ≠ b) ∧ (D0 b ∨ w.heap.size ≤ b) := by
      rcases hd with hd | hd
      · exact hd
      · exact ⟨fun p hp e => by have := h.box.old p hp; omega, .inr (Nat.le_trans h.bel.size hd)⟩
    exact ⟨fun p hp => by
      rcases List.mem_append.1 hp with hp | hp
      · exact hall.1 p hp
      · exact hne p hp, hall.2⟩) (fun _ _ _ _ => rfl))
/-- a list of messages of the call's own, as a caller reads it -/
theorem LS.ms {sg : List Bx} {cs : List Value} {v : Value} {L : List Msg} {D0 : Nat → Prop} {w W : World} {F : List Bx} {G : List Fct} (h : LS sg cs v L) (E : Env D0 w F G W) (hs : ∀ p ∈ sg, p ∈ F) (hm : Fct.at W (DF D0 w.heap.size F) (.mc cs L)) : Fct.at W (fun b => D0 b ∨ w.heap.size ≤ b) (.ms v L) := by
  rcases h with ⟨rfl, rfl, rfl, rfl⟩ | ⟨g, cap, rfl, rfl, h1, h2, h3⟩
  · exact Ms.nil _ _
  · have hB := (held_iff.1 E.box).1 (g, 24, cs) (hs _ (by simp))
    exact Ms.ofBox hB hm h1 h2 (fun _ h => h.2) (.inr hB.1)
theorem OI.rw {sg : List Bx} {cs : List Value} {v : Value} {l : List Int} {D0 : Nat → Prop} {w W : World} {F : List Bx} {G : List Fct} (h : OI sg cs v l) (E : Env D0 w F G W) (hs : ∀ p ∈ sg, p ∈ F) : Fct.at W (fun b => D0 b ∨ w.heap.size ≤ b) (.rw v l.length 1 (icl l)) := by
  obtain ⟨h, ht⟩ := h
  rcases h with ⟨rfl, rfl, rfl, h0⟩ | ⟨g, cap, rfl, rfl, h1, h2, h3⟩
  · have : l = [] := List.length_eq_zero_iff.1 h0
    subst this; exact Rw.nil _ _ _
  · have hB := (held_iff.1 E.box).1 (g, 3, cs) (hs _ (by simp))
    refine ⟨_, cap, rfl, h1, h2, icl_len l, icl_one l, fun _ => ⟨g, 0, rfl, ⟨hB.lt, .inr hB.1⟩, fun i u hu => ?_⟩⟩
    rw [Nat.zero_add]
    rw [← ht, List.getElem?_take] at hu
    split at hu
    · exact hB.cell _ hu
    · cases hu
end Go.Proofs.Ytbcfcdcomboljaa

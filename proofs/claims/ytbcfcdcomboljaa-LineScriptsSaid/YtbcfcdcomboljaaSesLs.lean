/- A walk that holds a map of its own and lists of messages that it grows. -/
import Derived.Test.YtbcfcdcomboljaaSesAp
import Derived.Maps.OwnOps
import Derived.Maps.OwnSet
import Derived.Maps.RangeWalk
namespace Go.Proofs.Ytbcfcdcomboljaa
open Go.RowKit Go.Maps
set_option linter.unusedVariables false
abbrev MapD := DataW Unit
/-- Env, and a map of the call's own -/
structure EnvM (D0 : Nat → Prop) (w : World) (F : List Bx) (G : List Fct) (mb n : Nat) (dm : MapD) (W : World) : Prop where
  env : Env D0 w F G W
  map : W.ownsMap Try.prog 3 (plainElem Try.prog 3) mb n dm
  ge : w.heap.size ≤ mb
theorem gb_below {w w' : World} (h : Below w.heap.size w w') : w.grownBy w' none := ⟨h.os, h.tape, h.output, h.size, fun k hk _ => h.block k hk⟩
theorem map_block {w : World} {b n : Nat} {k : TypeId} {R : Value → Option (MapD × List MemPlace)} {D : MapD} {P : Program} (h : w.ownsMap P k R b n D) : ∃ es c, w.heap[b]? = some (.map es c) := by
  obtain ⟨es, c, hb, _⟩ := h; exact ⟨es, c, hb⟩
theorem box_ne {B b mb n : Nat} {k T : TypeId} {cs : List Value} {R : Value → Option (MapD × List MemPlace)} {D : MapD} {P : Program} {W : World} (hb : Box B b T cs W) (h : W.ownsMap P k R mb n D) : mb ≠ b := by
  obtain ⟨es, c, hm⟩ := map_block h
  rintro rfl
  rw [hb.2] at hm; cases hm
section
variable {D0 : Nat → Prop} {w W W' : World} {F : List Bx} {G G' : List Fct} {mb n : Nat} {dm : MapD}
theorem EnvM.bel (h : EnvM D0 w F G mb n dm W) : Below w.heap.size w W := h.env.bel
theorem EnvM.below (h : EnvM D0 w F G mb n dm W) (hb : Below W.heap.size W W') : EnvM D0 w F G mb n dm W' := ⟨h.env.below hb, h.map.kept (gb_below hb) (by simp), h.ge⟩
theorem EnvM.got (h : EnvM D0 w F G mb n dm W) (h' : EnvM D0 w F G' mb n dm W') (f : Fct) (hf : f.at W' (fun b => DF D0 w.heap.size F b ∨ W.heap.size ≤ b)) : EnvM D0 w F (f :: G') mb n dm W' := ⟨h.env.got h'.env f hf, h'.map, h'.ge⟩
theorem EnvM.push (h : EnvM D0 w F G mb n dm W) (T : TypeId) (cs : List Value) (g : Nat) (hg : g = W.heap.size) : EnvM D0 w ((g, T, cs) :: F) G mb n dm (W.alloc (.cells cs.toArray T)) := ⟨h.env.push T cs g hg, h.map.alloc _, h.ge⟩
theorem EnvM.set (h : EnvM D0 w F G mb n dm W) (i : Nat) {b : Nat} {T : TypeId} {cs : List Value} (k : Nat) (v : Value) (e : F[i]? = some (b, T, cs)) : EnvM D0 w (F.set i (b, T, cs.set k v)) G mb n dm (W.setCell ⟨b, k, none⟩ v) :=
  ⟨h.env.set i k v e, h.map.setCell (box_ne (h.env.bx i e) h.map) v, h.ge⟩
theorem EnvM.drew (h : EnvM D0 w F G mb n dm W) : EnvM D0 w F G mb n dm W.drew := ⟨h.env.drew, h.map.drew, h.ge⟩
theorem EnvM.bx (h : EnvM D0 w F G mb n dm W) (i : Nat) {b : Nat} {T : TypeId} {cs : List Value} (e : F[i]? = some (b, T, cs)) : Box w.heap.size b T cs W := h.env.bx i e
theorem EnvM.fc (h : EnvM D0 w F G mb n dm W) (i : Nat) {f : Fct} (e : G[i]? = some f) : f.at W (DF D0 w.heap.size F) := h.env.fc i e
theorem EnvM.drop {p : Bx} (h : EnvM D0 w (p :: F) G mb n dm W) : EnvM D0 w F G mb n dm W := ⟨h.env.drop, h.map, h.ge⟩
theorem EnvM.forget {f : Fct} (h : EnvM D0 w F (f :: G) mb n dm W) : EnvM D0 w F G mb n dm W := ⟨h.env.forget, h.map, h.ge⟩
theorem EnvM.note (h : EnvM D0 w F G mb n dm W) (f : Fct) (hf : f.at W (DF D0 w.heap.size F)) : EnvM D0 w F (f :: G) mb n dm W := ⟨h.env.note f hf, h.map, h.ge⟩
theorem EnvM.made (h : Env D0 w F G W) (g : Nat) (hg : g = W.heap.size) : EnvM D0 w F G g 0 (.map []) (W.alloc (.map #[] 0)) := by
  subst hg
  exact ⟨h.below ((Below.refl _ _).alloc (Nat.le_refl _) _), World.ownsMap_made _ _ _ _, h.bel.size⟩
theorem EnvM.bare (h : EnvM D0 w F G mb n dm W) : EnvM D0 w F [] mb n dm W := ⟨⟨h.env.bel, h.env.box, trivial⟩, h.map, h.ge⟩
theorem Env.bare (h : Env D0 w F G W) : Env D0 w F [] W := ⟨h.bel, h.box, trivial⟩
/-- boxes in another order -/
theorem held_iff {B : Nat} : ∀ {F : List Bx} {W : World}, HeldF B F W ↔ (∀ p ∈ F, Box B p.1 p.2.1 p.2.2 W) ∧ F.Pairwise (fun p q => p.1 ≠ q.1)
  | [], W => by simp [HeldF]
  | (b, T, cs) :: F, W => by
    simp only [HeldF, held_iff (F := F), List.mem_cons, forall_eq_or_imp, List.pairwise_cons]
    constructor
    · rintro ⟨h1, h2, h3, h4⟩; exact ⟨⟨h1, h3⟩, fun q hq e => h2 q hq e.symm, h4⟩
    · rintro ⟨⟨h1, h3⟩, h2, h4⟩; exact ⟨h1, fun q hq e => h2 q hq e.symm, h3, h4⟩
theorem Env.perm {F' : List Bx} (h : Env D0 w F G W) (hp : F.Perm F') : Env D0 w F' G W := by
  obtain ⟨h1, h2, h3⟩ := h
  refine ⟨h1, ?_, h3.turn (Nat.le_refl _) (fun b _ hd => ⟨fun p hp2 => hd.1 p (hp.mem_iff.2 hp2), hd.2⟩) (fun _ _ _ _ => rfl)⟩
  rw [held_iff] at h2 ⊢
  exact ⟨fun p hp2 => h2.1 p (hp.mem_iff.2 hp2), (hp.pairwise_iff (fun h e => h e.symm)).1 h2.2⟩
/-- the map was written -/
theorem EnvM.upd (h : EnvM D0 w F G mb n dm W) {n' : Nat} {dm' : MapD} (hm : W'.ownsMap Try.prog 3 (plainElem Try.prog 3) mb n' dm') (hg : W.grownBy W' (some mb)) : EnvM D0 w F G mb n' dm' W' := by
  obtain ⟨⟨h1, h2, h3⟩, hM, hge⟩ := h
  have hne : ∀ p ∈ F, p.1 ≠ mb := fun p hp e => box_ne ((held_iff.1 h2).1 p hp) hM e.symm
  have hc : ∀ b i, b < W.heap.size → W'.cell? ⟨b, i, none⟩ = W.cell? ⟨b, i, none⟩ := by
    intro b i hb
    by_cases e : b = mb
    · subst e
      obtain ⟨es, c, e1⟩ := map_block hM
      obtain ⟨es', c', e2⟩ := map_block hm
      simp [World.cell?, e1, e2]
    · exact World.cell?_of_block (hg.block b hb (by simpa using e))
  refine ⟨⟨⟨hg.os.trans h1.os, hg.tape.trans h1.tape, hg.output.trans h1.output, Nat.le_trans h1.size hg.size, fun k hk => (hg.block k (Nat.lt_of_lt_of_le hk h1.size) (by simp; omega)).trans (h1.block k hk)⟩, ?_, h3.turn hg.size (fun _ _ h => h) (fun b i hb _ => hc b i hb)⟩, hm, hge⟩
  rw [held_iff] at h2 ⊢
  refine ⟨fun p hp => ⟨(h2.1 p hp).1, (hg.block _ (h2.1 p hp).lt (by simp; exact hne p hp)).trans (h2.1 p hp).2⟩, h2.2⟩
end
/-- a list of messages that the call has built: nil, or a box -/
def LS (sg : List Bx) (cs : List Value) (v : Value) (L : List Msg) : Prop :=
  (sg = [] ∧ cs = [] ∧ v = .slice none 0 0 ∧ L = []) ∨ ∃ g cap, sg = [(g, 24, cs)] ∧ v = .slice (some ⟨g, 0, none⟩) L.length cap ∧ L.length ≤ cap ∧ cap ≤ 9223372036854775807 ∧ cs.length = cap * 5
theorem LS.nil : LS [] [] (.slice none 0 0) [] := .inl ⟨rfl, rfl, rfl, rfl⟩
theorem LS.len {sg : List Bx} {cs : List Value} {v : Value} {L : List Msg} (h : LS sg cs v L) : ∃ a c, v = .slice a L.length c := by
  rcases h with ⟨_, _, rfl, rfl⟩ | ⟨g, cap, _, rfl, _⟩
  · exact ⟨none, 0, rfl⟩
  · exact ⟨_, _, rfl⟩
section
variable {D0 : Nat → Prop} {w W : World} {F A B' sg : List Bx} {G : List Fct} {mb n : Nat} {dm : MapD} {cs : List Value} {v : Value} {L : List Msg}
set_option maxRecDepth 100000 in
theorem wpList_appL {ops : Array Oper} {rest : List Oper} {o : Oper} {a : Act} {Q : Exit → Act → World → Prop} (hgd : o.guard = none) (s x : Operand)
    (ho : o.op = .call { callee := .builtin .append, args := #[s, x], argTypes := #[25, 25] })
    (E : EnvM D0 w F G mb n dm W) (hF : F = A ++ (sg ++ B')) (hL : LS sg cs v L) (hmc : Fct.at W (DF D0 w.heap.size F) (.mc cs L)) (hs : a.eval s = v) {ad : Option Addr} {c : Nat} {news : List Value} (hx : a.eval x = .slice ad 1 c) (hsrc : SrcM W ad 1 news) {M : Msg} (hmn : Fct.at W (DF D0 w.heap.size F) (.mc news [M])) (hb : L.length + 1 ≤ 1000000)
    (h : ∀ (g' cap' : Nat) (cs' : List Value) (W' : World), Hid (LS [(g', 24, cs')] cs' (.slice (some ⟨g', 0, none⟩) (L.length + 1) cap') (L ++ [M])) → Hid (EnvM D0 w (A ++ ((g', 24, cs') :: B')) (.mc cs' (L ++ [M]) :: G) mb n dm W') → wpList Try.prog ops Q rest (a.put o.dst (.slice (some ⟨g', 0, none⟩) (L.length + 1) cap')) W') :
    wpList Try.prog ops Q (o :: rest) a W := by
  obtain ⟨i0, hi0, z0, z1, z2⟩ := infoM_open
  obtain ⟨hnl, h1, hcell⟩ := hsrc
  obtain ⟨ad, rfl, hcell2⟩ := hcell.resolve_left (by decide)
  have hown : W.ownsRow 0 24 5 v L.length (cs.take (L.length * 5)) := by
    rcases hL with ⟨rfl, rfl, rfl, rfl⟩ | ⟨g, cap, rfl, rfl, h2, h3, h4⟩
    · exact ⟨rfl, .inl ⟨rfl, rfl⟩⟩
    · have hX := E.bx A.length (b := g) (T := 24) (cs := cs) (by rw [hF]; simp)
      exact ⟨by simp [h4]; omega, .inr ⟨g, cap, cs.toArray, rfl, Nat.zero_le _, hX.2, h2, by unfold maxLen; omega, by simpa using h4, by simp⟩⟩
  refine wpList_append_own_at W hgd s x 25 ho 0 24 i0 mzero 5 56 Try.underlying25 hi0 z0 z1 z2 rfl (by omega) v L.length _ hs hown ad 1 c news hx hnl hcell2 h1 (by unfold maxLen; omega) (by omega) (Nat.zero_le _) ?_
  intro v' W' hown' hgrow hnil hat
  rcases hown'.2 with ⟨rfl, h0⟩ | ⟨g', cap', cur, rfl, _, hg, h2, h3, h4, h5⟩
  · have := (hnil.1 rfl).2; omega
  have hmb : some mb ≠ v.ownBlock := by
    rcases hL with ⟨rfl, rfl, rfl, rfl⟩ | ⟨g, cap, rfl, rfl, _⟩
    · simp [Value.ownBlock]
    · have := box_ne (E.bx A.length (b := g) (T := 24) (cs := cs) (by rw [hF]; simp)) E.map
      simpa [Value.ownBlock] using this
  have hM := E.map.kept hgrow hmb
  have hmc' : ∀ {D : Nat → Prop}, Fct.at W' D (.mc cs L) → Fct.at W' D (.mc news [M]) → Fct.at W' D (.mc cur.toList (L ++ [M])) := fun g1 g2 => by
    refine mc_app (n := L.length) (N := L.length + 1) g1 g2 ?_ rfl rfl h5
    rcases hL with ⟨rfl, rfl, rfl, rfl⟩ | ⟨g, cap, rfl, rfl, e1, e2, e3⟩
    · simp
    · omega
  have hls : LS [(g', 24, cur.toList)] cur.toList (.slice (some ⟨g', 0, none⟩) (L.length + 1) cap') (L ++ [M]) := .inr ⟨g', cap', rfl, by simp, by simpa using h2, by unfold maxLen at h3; omega, by simpa using h4⟩
  -- the boxes
  have hE : Env D0 w (A ++ ((g', 24, cur.toList) :: B')) (.mc news [M] :: .mc cs L :: G) W' := by
    have E2 := (E.env.note (.mc cs L) hmc).note (.mc news [M]) hmn
    rcases hL with ⟨rfl, rfl, rfl, rfl⟩ | ⟨g, cap, rfl, rfl, e1, e2, e3⟩
    · have hbw : Below W.heap.size W W' := ⟨hgrow.os, hgrow.tape, hgrow.output, hgrow.size, fun k hk => hgrow.block k hk (by simp [Value.ownBlock])⟩
      have hgg : W.heap.size ≤ g' := by
        rcases hat with h | h <;> simp [Value.ownBlock] at h
        omega
      have E3 := E2.gotBox hbw (g := g') (T := 24) (cs := cur.toList) ⟨hgg, by rw [Array.toArray_toList]; exact hg⟩
      refine E3.perm ?_
      rw [hF, List.nil_append]
      exact List.perm_middle.symm
    · have hgg : g' = g ∨ W.heap.size ≤ g' := by
        rcases hat with h | h
        · simp [Value.ownBlock] at h; exact .inl h
        · simp [Value.ownBlock] at h; exact .inr (by omega)
      have hoff : Off g W W' := ⟨hgrow.os, hgrow.tape, hgrow.output, hgrow.size, fun k hk hne => hgrow.block k hk (by simp [Value.ownBlock]; omega)⟩
      have E3 := E2.ins A.length (g := g) (T := 24) (cs := cs) (by rw [hF]; simp) hoff hgg (cs' := cur.toList) (by rw [Array.toArray_toList]; exact hg)
      have e : F.set A.length (g', 24, cur.toList) = A ++ ((g', 24, cur.toList) :: B') := by rw [hF]; simp
      rw [e] at E3; exact E3
  have hE3 := (hE.forget.forget.note _ (hmc' (hE.fc 1 rfl) (hE.fc 0 rfl)))
  exact h g' cap' cur.toList W' (Lib.hid hls) (Lib.hid ⟨hE3, hM, E.ge⟩)
/-- an element's cells -/
theorem EnvM.el {va : Option Addr} {vn vc : Nat} (E : EnvM D0 w F G mb n dm W) (hF : F = A ++ (sg ++ B')) (hL : LS sg cs (.slice va vn vc) L) {i : Nat} (hmc : G[i]? = some (.mc cs L)) {j : Nat} (hj : j < L.length) {fr to_ kd nm : Int} (hM : L[j] = ⟨fr, to_, kd, nm, []⟩) :
    ∃ g ea ek, va = some ⟨g, 0, none⟩ ∧ W.cell? ⟨g, j * 5, none⟩ = some (.int .i64 fr) ∧ W.cell? ⟨g, j * 5 + 1, none⟩ = some (.int .i64 to_) ∧ W.cell? ⟨g, j * 5 + 2, none⟩ = some (.int .i64 kd) ∧ W.cell? ⟨g, j * 5 + 3, none⟩ = some (.int .i64 nm) ∧ W.cell? ⟨g, j * 5 + 4, none⟩ = some (.slice ea 0 ek) ∧ Hid (EnvM D0 w F (.bs (.slice ea 0 ek) [] :: G) mb n dm W) := by
  rcases hL with ⟨rfl, rfl, _, rfl⟩ | ⟨g, cap, rfl, he, e1, e2, e3⟩
  · simp at hj
  simp only [Value.slice.injEq] at he
  obtain ⟨rfl, rfl, rfl⟩ := he
  have hX := E.bx A.length (b := g) (T := 24) (cs := cs) (by rw [hF]; simp)
  obtain ⟨m0, m1, m2, m3, ea, ek, m4, m5⟩ := E.fc i hmc j hj
  rw [hM] at m0 m1 m2 m3 m4 m5
  exact ⟨g, ea, ek, rfl, hX.cell _ m0, hX.cell _ m1, hX.cell _ m2, hX.cell _ m3, hX.cell _ m4, Lib.hid (E.note _ m5)⟩
end
theorem cell_alloc {W : World} {b i : Nat} {v : Value} (h : W.cell? ⟨b, i, none⟩ = some v) (o : Obj) : (W.alloc o).cell? ⟨b, i, none⟩ = some v := by
  have hb := World.block_lt_of_cell? W _ h
  exact (((Below.refl W.heap.size W).alloc (Nat.le_refl _) o).cell (p := ⟨b, i, none⟩) hb).trans h
theorem law : Keyed Try.prog 3 := int_keyed Try.underlying3
theorem zeroE (w : World) : (zeroValue 3).run Try.prog w = .ok (.int .i64 0) w := by kernel_rfl
theorem and_u8 (x : Nat) (h : x < 256) : bits .and .u8 (x : Int) 3 = ((x % 4 : Nat) : Int) := by
  have key : ∀ x : Fin 256, bits .and .u8 ((x.val : Nat) : Int) 3 = ((x.val % 4 : Nat) : Int) := of_decide_eq_true (by kernel_rfl)
  exact key ⟨x, h⟩
/-- the map counts what dn says -/
def MapIs (dm : MapD) (dn : Int → Int) : Prop := IsMap dm ∧ ∀ k, dm.atKey (.int .i64 k) (.lit (.int .i64 0)) = .lit (.int .i64 (dn k)) ∧ (dn k = 0 → has dm (.int .i64 k) = false)
theorem MapIs.start : MapIs (.map []) (fun _ => 0) := ⟨isMap_empty, fun k => ⟨rfl, fun _ => rfl⟩⟩
theorem MapIs.put {dm : MapD} {dn : Int → Int} (h : MapIs dm dn) (n : Int) : MapIs (dm.put (.int .i64 n) (.lit (.int .i64 1))) (fun k => if k = n then 1 else dn k) := by
  obtain ⟨h1, h2⟩ := h
  refine ⟨h1.put _ _, fun k => ?_⟩
  by_cases e : k = n
  · subst e
    rw [atKey_put_same h1 (by exact trivial)]
    simp
  · have hne : (Lit.int .i64 k) ≠ .int .i64 n := by simpa using e
    rw [atKey_put_other hne, has_put_other hne]
    simpa [e] using h2 k
/-- a byte of a slice -/
theorem Bs.byte {W : World} {D : Nat → Prop} {a : Option Addr} {n c : Nat} {l : List Nat} (h : Bs W D (.slice a n c) l) {i : Nat} (hi : i < l.length) : ∃ b o, a = some ⟨b, o, none⟩ ∧ W.cell? ⟨b, o + i, none⟩ = some (.int .u8 (l[i] : Nat)) ∧ l[i] < 256 := by
  obtain ⟨ao, cap, h1, h2, h3, h4, h5, h6⟩ := h
  simp only [Value.slice.injEq] at h1
  obtain ⟨rfl, _, _⟩ := h1
  obtain ⟨b, o, rfl, _, hc⟩ := h5 (by rintro rfl; simp at hi)
  exact ⟨b, o, rfl, by have := hc i hi; rwa [List.getD_eq_getElem?_getD, List.getElem?_eq_getElem hi, Option.getD_some] at this, h4 _ (List.getElem_mem hi)⟩
end Go.Proofs.Ytbcfcdcomboljaa

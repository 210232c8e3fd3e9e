/- A map from pairs of numbers to numbers: its keys, what it holds, a walk that owns it. -/
import Derived.Test.YtfnnfmefihiefaaSpEc
import Derived.Maps.OwnOps
import Derived.Maps.OwnSet
import Derived.Maps.RangeWalk
import Derived.WideKeyPair
namespace Go.Proofs.Ytfnnfmefihiefaa
open Go.RowKit Go.Maps Go.WideMaps
set_option linter.unusedVariables false
set_option linter.unusedSimpArgs false
abbrev MapD := DataW Unit
theorem map_block {w : World} {b n : Nat} {k : TypeId} {R : Value → Option (MapD × List MemPlace)} {D : MapD} {P : Program} (h : w.ownsMap P k R b n D) : ∃ es c, w.heap[b]? = some (.map es c) := by
  obtain ⟨es, c, hb, _⟩ := h; exact ⟨es, c, hb⟩
theorem box_ne {B b mb n : Nat} {k T : TypeId} {cs : List Value} {R : Value → Option (MapD × List MemPlace)} {D : MapD} {P : Program} {W : World} (hb : Box B b T cs W) (h : W.ownsMap P k R mb n D) : mb ≠ b := by
  obtain ⟨es, c, hm⟩ := map_block h
  rintro rfl
  rw [hb.2] at hm; cases hm
theorem arrK : ArrKey Try.prog 70 3 2 := ⟨Try.underlying70, by kernel_rfl, by kernel_rfl, by kernel_rfl⟩
theorem lawK : Keyed Try.prog 70 := Keyed.of_law arrK.law
theorem typesS : ∃ m, Try.prog.types.size = m + 1 := ⟨Try.prog.types.size - 1, by kernel_rfl⟩
/-- a key, as it is told -/
def kK (a b : Int) : Lit := .string (keyBytes [.int .i64 a, .int .i64 b])
def kV (x : Int × Int) : Value := .agg #[.int .i64 x.1, .int .i64 x.2]
theorem keyOf_mk {a b : Int} (wa : wI a) (wb : wI b) : keyOf Try.prog 70 (kV (a, b)) = some (kK a b) := keyOf_pair arrK Try.underlying3 typesS wa wb
theorem kK_inj {a b c d : Int} (wa : wI a) (wb : wI b) (wc : wI c) (wd : wI d) (h : kK a b = kK c d) : a = c ∧ b = d := by
  have h1 := lawK.inj (keyOf_mk wa wb) (by rw [h]; exact keyOf_mk wc wd)
  unfold kV at h1
  simpa using h1
theorem keyOf_inv {v : Value} {kl : Lit} (h : keyOf Try.prog 70 v = some kl) : ∃ a b, v = kV (a, b) ∧ wI a ∧ wI b ∧ kl = kK a b := by
  obtain ⟨xs, L, rfl, hl, e⟩ := keyOf_top (by rw [Try.underlying70]) h
  have hl0 := hl
  unfold Program.keyLits at hl
  simp only [Try.underlying70] at hl
  split at hl
  · rename_i hlen
    rw [arrK.size] at hlen
    match hx : xs.toList, hlen with
    | [c0, c1], _ =>
      rw [hx, show List.range 2 = [0, 1] from rfl, List.mapM_cons, List.mapM_cons, List.mapM_nil] at hl
      simp only [bind, Option.bind_eq_some_iff, pure, Option.some.injEq, arrK.one, Option.map_eq_some_iff] at hl
      obtain ⟨y, ⟨l0, h0, _, ⟨l1, h1, _, rfl, rfl⟩, rfl⟩, _⟩ := hl
      have key : ∀ {c : Value} {l : List Lit} {d : Nat}, Try.prog.keyLits d 3 [c] = some l → ∃ a, c = .int .i64 a ∧ wI a := by
        intro c l d hc
        cases d with
        | zero => simp [Program.keyLits] at hc
        | succ d =>
          unfold Program.keyLits at hc
          simp only [Try.underlying3] at hc
          cases c <;> simp at hc
          obtain ⟨⟨rfl, hw⟩, _⟩ := hc
          exact ⟨_, rfl, hw⟩
      obtain ⟨a, rfl, wa⟩ := key (by simpa using h0)
      obtain ⟨b, rfl, wb⟩ := key (by simpa using h1)
      have e2 : Value.agg xs = kV (a, b) := by
        unfold kV
        rw [← Array.toArray_toList (xs := xs), hx]
      refine ⟨a, b, e2, wa, wb, ?_⟩
      have h3 := keyOf_mk wa wb
      rw [← e2, h] at h3
      exact Option.some.inj h3
  · cases hl
/-- the map holds what M says -/
abbrev Mk := Int → Int → Option Nat
def MapK (dm : MapD) (M : Mk) : Prop := Tidy dm ∧ ∀ a b, wI a → wI b → dm.atKey (kK a b) (.lit (.int .i64 0)) = .lit (.int .i64 (((M a b).getD 0 : Nat) : Int)) ∧ has dm (kK a b) = (M a b).isSome
def putM (M : Mk) (a b : Int) (k : Nat) : Mk := fun x y => if x = a ∧ y = b then some k else M x y
theorem MapK.start : MapK (.map []) (fun _ _ => none) := ⟨tidy_empty, fun a b _ _ => ⟨rfl, rfl⟩⟩
theorem MapK.put {dm : MapD} {M : Mk} (h : MapK dm M) {a b : Int} (wa : wI a) (wb : wI b) (k : Nat) : MapK (dm.put (kK a b) (.lit (.int .i64 (k : Int)))) (putM M a b k) := by
  obtain ⟨h1, h2⟩ := h
  refine ⟨h1.put (lawK.key (keyOf_mk wa wb)) _, fun x y wx wy => ?_⟩
  unfold putM
  by_cases e : x = a ∧ y = b
  · obtain ⟨rfl, rfl⟩ := e
    rw [atKey_put_same h1.isMap (lawK.key (keyOf_mk wa wb)), has_put_same h1.isMap (lawK.key (keyOf_mk wa wb)), if_pos ⟨rfl, rfl⟩]
    exact ⟨rfl, rfl⟩
  · have hne : kK x y ≠ kK a b := fun e2 => e (kK_inj wx wy wa wb e2)
    rw [atKey_put_other hne, has_put_other hne, if_neg e]
    exact h2 x y wx wy
theorem MapK.size_put {dm : MapD} {M : Mk} (h : MapK dm M) {a b : Int} (wa : wI a) (wb : wI b) (hn : M a b = none) (d : MapD) : size (dm.put (kK a b) d) = size dm + 1 := by
  rw [Maps.size_put h.1]
  have h2 := (h.2 a b wa wb).2
  rw [hn] at h2
  rw [if_neg (by rw [h2]; simp)]
/-- the map in block mb holds M, n keys -/
def QM (mb n : Nat) (M : Mk) (W : World) : Prop := ∃ dm : MapD, W.ownsMap Try.prog 70 (plainElem Try.prog 3) mb n dm ∧ MapK dm M ∧ size dm = n
/-- .. and is ranged over: cnt keys are still to come -/
def QR (mb r n : Nat) (M : Mk) (cnt : Nat) (W : World) : Prop := ∃ (dm : MapD) (left : Lit → Bool), W.ranges Try.prog 70 (plainElem Try.prog 3) mb r n dm left cnt ∧ MapK dm M
theorem QM.lt {mb n : Nat} {M : Mk} {W : World} (h : QM mb n M W) : mb < W.heap.size := by obtain ⟨dm, h1, _⟩ := h; exact h1.lt
theorem QM.same {mb n : Nat} {M : Mk} {W W' : World} (e : W'.heap[mb]? = W.heap[mb]?) (h : QM mb n M W) : QM mb n M W' := by
  obtain ⟨dm, ⟨es, c, hb, hr⟩, h2⟩ := h
  exact ⟨dm, ⟨es, c, e.trans hb, hr⟩, h2⟩
theorem QM.kept {mb n : Nat} {M : Mk} {w W : World} (h : QM mb n M w) (hb : Below w.heap.size w W) : QM mb n M W := h.same (hb.block mb h.lt)
theorem QR.same {mb r n : Nat} {M : Mk} {cnt : Nat} {W W' : World} (e : W'.heap[mb]? = W.heap[mb]?) (e2 : W'.heap[r]? = W.heap[r]?) (h : QR mb r n M cnt W) : QR mb r n M cnt W' := by
  obtain ⟨dm, left, ⟨es, clock, since, seen, c0, hb, h1, h2, h3, hr, rest⟩, h4⟩ := h
  exact ⟨dm, left, ⟨es, clock, since, seen, c0, e.trans hb, h1, h2, h3, e2.trans hr, rest⟩, h4⟩
/-- Env, and what blocks of the call's own hold that are no boxes -/
structure EnvX (D0 : Nat → Prop) (w : World) (F : List Bx) (G : List Fct) (K : List Nat) (Q : World → Prop) (W : World) : Prop where
  env : Env D0 w F G W
  q : Q W
  st : ∀ W W' : World, (∀ b ∈ K, W'.heap[b]? = W.heap[b]?) → Q W → Q W'
  own : ∀ b ∈ K, w.heap.size ≤ b ∧ b < W.heap.size ∧ ∀ p ∈ F, p.1 ≠ b
section
variable {D0 : Nat → Prop} {w W W' : World} {F F' A B' sg : List Bx} {G G' : List Fct} {K : List Nat} {Q : World → Prop} {cs : List Value} {v : Value}
theorem EnvX.move (h : EnvX D0 w F G K Q W) (E : Env D0 w F' G' W') (hs : W.heap.size ≤ W'.heap.size) (hb : ∀ b ∈ K, W'.heap[b]? = W.heap[b]?) (hF : ∀ b ∈ K, ∀ p ∈ F', p.1 ≠ b) : EnvX D0 w F' G' K Q W' :=
  ⟨E, h.st W W' hb h.q, h.st, fun b hk => ⟨(h.own b hk).1, Nat.lt_of_lt_of_le (h.own b hk).2.1 hs, hF b hk⟩⟩
theorem EnvX.here (h : EnvX D0 w F G K Q W) (E : Env D0 w F' G' W) (hF : ∀ p ∈ F', p ∈ F) : EnvX D0 w F' G' K Q W := h.move E (Nat.le_refl _) (fun _ _ => rfl) fun b hk p hp => (h.own b hk).2.2 p (hF p hp)
theorem EnvX.bel (h : EnvX D0 w F G K Q W) : Below w.heap.size w W := h.env.bel
theorem EnvX.box (h : EnvX D0 w F G K Q W) : HeldF w.heap.size F W := h.env.box
theorem EnvX.below (h : EnvX D0 w F G K Q W) (hb : Below W.heap.size W W') : EnvX D0 w F G K Q W' := h.move (h.env.below hb) hb.size (fun b hk => hb.block b (h.own b hk).2.1) fun b hk => (h.own b hk).2.2
theorem EnvX.got (h : EnvX D0 w F G K Q W) (h' : EnvX D0 w F G' K Q W') (f : Fct) (hf : f.at W' (fun b => DF D0 w.heap.size F b ∨ W.heap.size ≤ b)) : EnvX D0 w F (f :: G') K Q W' := ⟨h.env.got h'.env f hf, h'.q, h'.st, h'.own⟩
theorem EnvX.push (h : EnvX D0 w F G K Q W) (T : TypeId) (cs : List Value) (g : Nat) (hg : g = W.heap.size) : EnvX D0 w ((g, T, cs) :: F) G K Q (W.alloc (.cells cs.toArray T)) :=
  h.move (h.env.push T cs g hg) (by simp) (fun b hk => (MapKept.heap_alloc W _).2 b (h.own b hk).2.1) fun b hk p hp => by
    rcases List.mem_cons.1 hp with rfl | hp
    · have := (h.own b hk).2.1; simp only; omega
    · exact (h.own b hk).2.2 p hp
theorem mem_setF {i : Nat} {x p : Bx} (hp : p ∈ F.set i x) (e : ∃ y, F[i]? = some y ∧ y.1 = x.1) : ∃ q ∈ F, q.1 = p.1 := by
  rcases List.mem_or_eq_of_mem_set hp with hp | rfl
  · exact ⟨p, hp, rfl⟩
  · obtain ⟨y, hy, e⟩ := e
    exact ⟨y, List.mem_of_getElem? hy, e⟩
theorem EnvX.set (h : EnvX D0 w F G K Q W) (i : Nat) {b : Nat} {T : TypeId} {cs : List Value} (k : Nat) (v : Value) (e : F[i]? = some (b, T, cs)) : EnvX D0 w (F.set i (b, T, cs.set k v)) G K Q (W.setCell ⟨b, k, none⟩ v) :=
  h.move (h.env.set i k v e) (by simp) (fun c hk => Below.heap_setCell _ _ _ _ (fun e2 => (h.own c hk).2.2 _ (List.mem_of_getElem? e) e2.symm)) fun c hk p hp => by
    obtain ⟨q, hq, e2⟩ := mem_setF hp ⟨_, e, rfl⟩
    rw [← e2]; exact (h.own c hk).2.2 q hq
theorem EnvX.whole (h : EnvX D0 w F G K Q W) (i : Nat) {b : Nat} {T : TypeId} {cs : List Value} (cs' : List Value) (e : F[i]? = some (b, T, cs)) (hl : cs'.length = cs.length) : EnvX D0 w (F.set i (b, T, cs')) G K Q (W.setCells b 0 cs') :=
  h.move (h.env.whole i cs' e hl) (Nat.le_of_eq (sets_size _ _ _ _).symm) (fun c hk => sets_other (fun e2 => (h.own c hk).2.2 _ (List.mem_of_getElem? e) e2.symm) _ _ _) fun c hk p hp => by
    obtain ⟨q, hq, e2⟩ := mem_setF hp ⟨_, e, rfl⟩
    rw [← e2]; exact (h.own c hk).2.2 q hq
theorem EnvX.drew (h : EnvX D0 w F G K Q W) : EnvX D0 w F G K Q W.drew := h.move h.env.drew (Nat.le_refl _) (fun _ _ => rfl) fun b hk => (h.own b hk).2.2
theorem EnvX.bx (h : EnvX D0 w F G K Q W) (i : Nat) {b : Nat} {T : TypeId} {cs : List Value} (e : F[i]? = some (b, T, cs)) : Box w.heap.size b T cs W := h.env.bx i e
theorem EnvX.fc (h : EnvX D0 w F G K Q W) (i : Nat) {f : Fct} (e : G[i]? = some f) : f.at W (DF D0 w.heap.size F) := h.env.fc i e
theorem EnvX.drop {p : Bx} (h : EnvX D0 w (p :: F) G K Q W) : EnvX D0 w F G K Q W := h.here h.env.drop fun q hq => List.mem_cons_of_mem _ hq
theorem EnvX.forget {f : Fct} (h : EnvX D0 w F (f :: G) K Q W) : EnvX D0 w F G K Q W := h.here h.env.forget fun _ h => h
theorem EnvX.note (h : EnvX D0 w F G K Q W) (f : Fct) (hf : f.at W (DF D0 w.heap.size F)) : EnvX D0 w F (f :: G) K Q W := h.here (h.env.note f hf) fun _ h => h
theorem EnvX.cast (h : EnvX D0 w F G K Q W) (e : F = F') : EnvX D0 w F' G K Q W := e ▸ h
theorem EnvX.perm (h : EnvX D0 w F G K Q W) (hp : F.Perm F') : EnvX D0 w F' G K Q W := h.here (h.env.perm hp) fun p hq => hp.mem_iff.2 hq
theorem EnvX.spOk (h : EnvX D0 w F G K Q W) (i : Nat) {s : Sp} {la pa : Value} (e : G[i]? = some (.gn (gSp s la pa))) : SpOk s := h.env.spOk i e
theorem EnvX.elU (h : EnvX D0 w F G K Q W) (i : Nat) {b off n j : Nat} {L : List Uv} (e : G[i]? = some (.gn (gUl (.slice (some ⟨b, off, none⟩) n j) L))) {k : Nat} (hk : k < L.length) {x : Uv} (hx : L[k] = x) :
    EnvX D0 w F (.gn (gRg b (off + k * 83) (uvc x)) :: .gn (gUv x) :: G) K Q W := h.here (h.env.elU i e hk hx) fun _ h => h
theorem EnvX.elV (h : EnvX D0 w F G K Q W) (i : Nat) {b off n j : Nat} {L : List Sv} (e : G[i]? = some (.gn (gSl (.slice (some ⟨b, off, none⟩) n j) L))) {k : Nat} (hk : k < L.length) {x : Sv} (hx : L[k] = x) :
    EnvX D0 w F (.gn (gRg b (off + k * 80) (svc x)) :: .gn (gSv x) :: G) K Q W := h.here (h.env.elV i e hk hx) fun _ h => h
theorem EnvX.elS (h : EnvX D0 w F G K Q W) (i : Nat) {s : Sp} {la pa : Value} (e : G[i]? = some (.gn (gSp s la pa))) :
    ∃ xa xk ya yk, la = .slice xa s.lv.length xk ∧ pa = .slice ya s.pa.length yk ∧ EnvX D0 w F (.rw (.slice xa s.lv.length xk) s.lv.length 3 (lcl s.lv) :: .rw (.slice ya s.pa.length yk) s.pa.length 32 s.pa.flatten :: G) K Q W := by
  obtain ⟨xa, xk, ya, yk, h1, h2, h3⟩ := h.env.elS i e
  exact ⟨xa, xk, ya, yk, h1, h2, h.here h3 fun _ h => h⟩
/-- the facts anew -/
theorem EnvX.facts (h : EnvX D0 w F G K Q W) (hG : HeldG (DF D0 w.heap.size F) G' W) : EnvX D0 w F G' K Q W := h.here ⟨h.env.bel, h.env.box, hG⟩ fun _ h => h
/-- a map is made -/
theorem EnvX.made (h : Env D0 w F G W) (g : Nat) (hg : g = W.heap.size) : EnvX D0 w F G [g] (QM g 0 (fun _ _ => none)) (W.alloc (.map #[] 0)) := by
  subst hg
  refine ⟨h.below ((Below.refl _ _).alloc (Nat.le_refl _) _), ⟨_, World.ownsMap_made _ _ _ _, MapK.start, rfl⟩, fun W W' hb hq => hq.same (hb _ (by simp)), fun b hk => ?_⟩
  obtain rfl : b = W.heap.size := by simpa using hk
  exact ⟨h.bel.size, by simp, fun p hp e => by have := ((held_iff.1 h.box).1 p hp).lt; omega⟩
/-- one block that is no box has turned: the map, or what ranges over it -/
theorem Env.turned {mb : Nat} (h : Env D0 w F G W) (hge : w.heap.size ≤ mb) (hne : ∀ p ∈ F, p.1 ≠ mb) (h1 : ∀ i, W.cell? ⟨mb, i, none⟩ = none) (h2 : ∀ i, W'.cell? ⟨mb, i, none⟩ = none) (hg : W.grownBy W' (some mb)) : Env D0 w F G W' := by
  obtain ⟨k1, k2, k3⟩ := h
  have hc : ∀ b i, b < W.heap.size → W'.cell? ⟨b, i, none⟩ = W.cell? ⟨b, i, none⟩ := by
    intro b i hb
    by_cases e : b = mb
    · subst e; rw [h1, h2]
    · exact World.cell?_of_block (hg.block b hb (by simpa using e))
  refine ⟨⟨hg.os.trans k1.os, hg.tape.trans k1.tape, hg.output.trans k1.output, Nat.le_trans k1.size hg.size, fun k hk => (hg.block k (Nat.lt_of_lt_of_le hk k1.size) (by simp; omega)).trans (k1.block k hk)⟩, ?_, k3.turn hg.size (fun _ _ h => h) (fun b i hb _ => hc b i hb)⟩
  rw [held_iff] at k2 ⊢
  exact ⟨fun p hp => ⟨(k2.1 p hp).1, (hg.block _ (k2.1 p hp).lt (by simp; exact hne p hp)).trans (k2.1 p hp).2⟩, k2.2⟩
theorem map_cell {mb n : Nat} {dm : MapD} (h : W.ownsMap Try.prog 70 (plainElem Try.prog 3) mb n dm) (i : Nat) : W.cell? ⟨mb, i, none⟩ = none := by
  obtain ⟨es, c, e⟩ := map_block h
  simp [World.cell?, e]
theorem iter_cell {mb r n cnt : Nat} {dm : MapD} {left : Lit → Bool} (h : W.ranges Try.prog 70 (plainElem Try.prog 3) mb r n dm left cnt) (i : Nat) : W.cell? ⟨r, i, none⟩ = none := by
  obtain ⟨es, clock, since, seen, c0, _, _, _, _, hr, _⟩ := h
  simp [World.cell?, hr]
theorem zeroI (w : World) : (zeroValue 3).run Try.prog w = .ok (.int .i64 0) w := by kernel_rfl
variable {ops : Array Oper} {rest : List Oper} {o : Oper} {a : Act} {R : Exit → Act → World → Prop} {mb n : Nat} {M : Mk}
/-- v, ok := m[key] -/
theorem wpl_lookM (hg : o.guard = none) (m x : Operand) (hop : o.op = Op.lookup 63 m x true) (hQ : QM mb n M W) (hm : a.eval m = .map (some mb)) {p q : Int} (hx : a.eval x = .agg #[.int .i64 p, .int .i64 q]) (wp : wI p) (wq : wI q)
    (h : wpList Try.prog ops R rest (a.put o.dst (.tuple #[.int .i64 (((M p q).getD 0 : Nat) : Int), .bool (M p q).isSome])) W) : wpList Try.prog ops R (o :: rest) a W := by
  obtain ⟨dm, hM, hP, _⟩ := hQ
  refine wpList_lookup_own_ok_int W hg m x _ hop _ _ .i64 lawK Try.underlying63 Try.underlying3 (zeroI W) mb n dm hm hM _ (kK p q) hx (keyOf_mk wp wq) (fun c hat hwc => ?_)
  rw [(hP.2 p q wp wq).1] at hat
  simp only [DataW.lit.injEq, Lit.int.injEq, true_and] at hat
  rw [← hat, (hP.2 p q wp wq).2]
  exact h
/-- m[key] in a drawn region -/
theorem exec_lookM {oi : Oper} {ev : Operand → Value} (m x : Operand) (ho : oi.op = Op.lookup 63 m x false) (hm : ev m = .map (some mb)) {p q : Int} (hx : ev x = .agg #[.int .i64 p, .int .i64 q]) (wp : wI p) (wq : wI q) (hQ : QM mb n M W) :
    (execOp ev oi).run Try.prog W = .ok (.value (.int .i64 (((M p q).getD 0 : Nat) : Int))) W := by
  obtain ⟨dm, hM, hP, _⟩ := hQ
  obtain ⟨c, hrun, hat, _⟩ := hM.lookup_int lawK Try.underlying63 Try.underlying3 (zeroI W) (keyOf_mk wp wq)
  rw [(hP.2 p q wp wq).1] at hat
  simp only [DataW.lit.injEq, Lit.int.injEq, true_and] at hat
  rw [hat]
  simp [execOp, ho, hm, hx, show Value.agg #[.int .i64 p, .int .i64 q] = kV (p, q) from rfl, hrun, Result.andThen]
/-- len(m) in a drawn region -/
theorem exec_lenM {oi : Oper} {ev : Operand → Value} (m : Operand) (ho : oi.op = Op.call { callee := .builtin .len, args := #[m], argTypes := #[63] }) (hm : ev m = .map (some mb)) (hQ : QM mb n M W) :
    (execOp ev oi).run Try.prog W = .ok (.value (.int .i64 (n : Int))) W := by
  obtain ⟨dm, hM, hP, e⟩ := hQ
  have := hM.len Try.underlying63 oi.type
  rw [e] at this
  simp [execOp, ho, resolve, invoke, builtin, hm, this, Result.andThen]
/-- m[key] = k: a new key -/
theorem wpl_updM (hg : o.guard = none) (m x v : Operand) (hop : o.op = Op.mapUpdate 63 m x v) (E : EnvX D0 w F G [mb] (QM mb n M) W) (hm : a.eval m = .map (some mb)) (hn : n ≤ 1000000) {p q : Int} {k : Nat} (hx : a.eval x = .agg #[.int .i64 p, .int .i64 q]) (wp : wI p) (wq : wI q) (hv : a.eval v = .int .i64 (k : Int)) (hk : k ≤ 1000000) (hnew : M p q = none)
    (h : ∀ W', Hid (EnvX D0 w F G [mb] (QM mb (n + 1) (putM M p q k)) W') → wpList Try.prog ops R rest (a.put o.dst undef) W') : wpList Try.prog ops R (o :: rest) a W := by
  obtain ⟨dm, hM, hP, e⟩ := E.q
  have hw : (Lit.int .i64 (k : Int)).wf = true := WalkArith.wf_i64 ⟨by omega, by omega⟩
  refine wpList_mapUpdate_own W hg m x v _ hop _ _ lawK Try.underlying63 _ mb n dm hm hM (by unfold maxLen; omega) _ _ (kK p q) hx hv (keyOf_mk wp wq) _ _ (plainElem_int Try.underlying3 hw) (fun W' h1 h2 => h W' (Lib.hid ?_))
  have ho := E.own mb (by simp)
  refine ⟨E.env.turned ho.1 ho.2.2 (map_cell hM) (map_cell h1) h2, ⟨_, h1, hP.put wp wq k, by rw [hP.size_put wp wq hnew, e]⟩, fun W W' hb hq => hq.same (hb _ (by simp)), fun b hb => ?_⟩
  obtain rfl : b = mb := by simpa using hb
  exact ⟨ho.1, h1.lt, ho.2.2⟩
/-- range m -/
theorem wpl_rangeM (hg : o.guard = none) (m : Operand) (hop : o.op = Op.range 63 m) (E : EnvX D0 w F G [mb] (QM mb n M) W) (hm : a.eval m = .map (some mb))
    (h : ∀ W' r cnt, Hid (EnvX D0 w F G [mb, r] (QR mb r n M cnt) W') → wpList Try.prog ops R rest (a.put o.dst (.pointer (some ⟨r, 0, none⟩))) W') : wpList Try.prog ops R (o :: rest) a W := by
  obtain ⟨dm, hM, hP, e⟩ := E.q
  refine wpList_range_own W hg m _ hop _ _ lawK Try.underlying63 _ mb n dm hm hM (fun W' h1 h2 h3 => h W' _ (size dm) (Lib.hid ?_))
  have ho := E.own mb (by simp)
  have hbw : Below W.heap.size W W' := ⟨h2.os, h2.tape, h2.output, h2.size, fun k hk => h2.block k hk (by simp)⟩
  refine ⟨E.env.below hbw, ⟨dm, _, h1, hP⟩, fun W W' hb hq => hq.same (hb _ (by simp)) (hb _ (by simp)), fun b hb => ?_⟩
  rcases List.mem_cons.1 hb with rfl | hb
  · exact ⟨ho.1, h1.owns.lt, ho.2.2⟩
  · obtain rfl : b = W.heap.size := by simpa using hb
    exact ⟨E.env.bel.size, h1.lt, fun p hp e => by have := ((held_iff.1 E.env.box).1 p hp).lt; omega⟩
/-- the range's step -/
theorem wpl_nextM {r cnt : Nat} (hg : o.guard = none) (it : Operand) (hop : o.op = Op.next it false) (E : EnvX D0 w F G [mb, r] (QR mb r n M cnt) W) (hit : a.eval it = .pointer (some ⟨r, 0, none⟩))
    (hDone : wpList Try.prog ops R rest (a.put o.dst (.tuple #[.bool false])) W)
    (hMore : ∀ (p q : Int) (k cnt' : Nat) (W' : World), Hid (wI p ∧ wI q ∧ M p q = some k ∧ cnt' < cnt) → Hid (EnvX D0 w F G [mb, r] (QR mb r n M cnt') W') → (Instr.entry (.pointer (some ⟨r, 0, none⟩))).run Try.prog W' = .ok (.tuple #[.agg #[.int .i64 p, .int .i64 q], .int .i64 (k : Int)]) W' → wpList Try.prog ops R rest (a.put o.dst (.tuple #[.bool true, .agg #[.int .i64 p, .int .i64 q], .int .i64 (k : Int)])) W') :
    wpList Try.prog ops R (o :: rest) a W := by
  obtain ⟨dm, left, hR, hP⟩ := E.q
  refine wpList_next_ranges W hg it hop _ lawK (plainElem Try.prog 3) kV (Value.int .i64) (fun key kl hk => by obtain ⟨p, q, e, _⟩ := keyOf_inv hk; exact ⟨(p, q), e⟩) (fun v y hv => by obtain ⟨c, rfl, _⟩ := plainElem_int_inv Try.underlying3 hv; exact ⟨c, rfl⟩) mb r n dm left cnt hit hR (fun _ _ => hDone) ?_
  rintro ⟨p, q⟩ c kl y W' cnt' hkey hlk hv hat hR' hlt hgr hsz hen
  obtain ⟨p', q', e1, wp, wq, rfl⟩ := keyOf_inv hkey
  obtain ⟨rfl, rfl⟩ : p = p' ∧ q = q' := by unfold kV at e1; simpa using e1
  obtain ⟨c', ec, rfl, hwc⟩ := plainElem_int_inv Try.underlying3 hv
  cases ec
  have h1 := (hP.2 p q wp wq).1
  rw [hat] at h1
  simp only [DataW.lit.injEq, Lit.int.injEq, true_and] at h1
  have h2 := (hP.2 p q wp wq).2
  rw [has_true_of_atKey hat] at h2
  obtain ⟨k, hk⟩ := Option.isSome_iff_exists.1 h2.symm
  rw [hk] at h1
  simp only [Option.getD_some] at h1
  subst h1
  have ho := E.own r (by simp)
  refine hMore p q k cnt' W' (Lib.hid ⟨wp, wq, hk, hlt⟩) (Lib.hid ⟨E.env.turned ho.1 ho.2.2 (iter_cell hR) (iter_cell hR') hgr, ⟨dm, _, hR', hP⟩, (fun W W' hb hq => hq.same (hb _ (by simp)) (hb _ (by simp))), fun b hb => ⟨(E.own b hb).1, by rw [hsz]; exact (E.own b hb).2.1, (E.own b hb).2.2⟩⟩) hen
end
end Go.Proofs.Ytfnnfmefihiefaa

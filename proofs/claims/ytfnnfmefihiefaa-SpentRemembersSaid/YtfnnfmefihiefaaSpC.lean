/- Uses: their cells, lists of them, facts of one's own; loads, stores and literals of wholes as single steps. -/
import Derived.Test.YtfnnfmefihiefaaSpB
import Derived.DeepKeys2
import Derived.Great.BuildSlice
import Derived.Great.Walk
import Derived.Deep.WholeRow
namespace Go.Proofs.Ytfnnfmefihiefaa
open Go.RowKit
set_option linter.unusedVariables false
set_option linter.unusedSimpArgs false
/-! ### plain cells -/
theorem tCoin : Try.prog.tiled 10 31 = true := by kernel_rfl
theorem tNode : Try.prog.tiled 10 33 = true := by kernel_rfl
theorem tCtx : Try.prog.tiled 10 35 = true := by kernel_rfl
theorem tHash : Try.prog.tiled 10 27 = true := by kernel_rfl
theorem okc.lits {T : TypeId} (ht : Try.prog.tiled 10 T = true) {c : List Value} (h : okc T c) : ∃ l, Try.prog.keyLits 9 T c = some l ∧ c = l.map Lit.toCell := by
  obtain ⟨l, hl⟩ := Option.isSome_iff_exists.1 h.2
  exact ⟨l, hl, cells_of_lits 10 T ht 9 c l hl⟩
theorem eqc_iff {T : TypeId} (ht : Try.prog.tiled 10 T = true) {c c' : List Value} (h : okc T c) (h' : okc T c') : eqc T c c' ↔ c = c' := by
  obtain ⟨l, hl, rfl⟩ := h.lits ht
  obtain ⟨l', hl', rfl⟩ := h'.lits ht
  unfold eqc
  constructor
  · intro e
    rw [hl, hl'] at e
    cases e
    rfl
  · intro e
    rw [e]
theorem okc.one {T : TypeId} (ht : Try.prog.tiled 10 T = true) {c : List Value} (h : okc T c) : ∀ v ∈ c, v.oneCell' = true := by
  obtain ⟨l, hl, rfl⟩ := h.lits ht
  intro v hv
  obtain ⟨x, _, rfl⟩ := List.mem_map.1 hv
  cases x <;> rfl
theorem alike_get : ∀ {a b : List Lit}, Alike a b → ∀ (j : Nat) {k : IntKind} {n : Int}, a[j]? = some (.int k n) → ∃ m, b[j]? = some (.int k m)
  | [], [], _, j, _, _, h => by simp at h
  | x :: r, y :: s, ⟨h1, h2⟩, 0, k, n, h => by
    simp only [List.getElem?_cons_zero, Option.some.injEq] at h
    subst h
    cases y <;> simp only [Lit.sameKind] at h1
    subst h1
    exact ⟨_, rfl⟩
  | x :: r, y :: s, ⟨h1, h2⟩, j + 1, k, n, h => by
    simp only [List.getElem?_cons_succ] at h ⊢
    exact alike_get h2 j h
/-- number j of plain cells -/
def cInt (c : List Value) (j : Nat) : Int := match c[j]? with | some (.int _ a) => a | _ => 0
theorem okc.int {T : TypeId} (ht : Try.prog.tiled 10 T = true) {c z : List Value} {lz : List Lit} (h : okc T c) (hz : Try.prog.keyLits 9 T z = some lz) {j : Nat} {n : Int} (hj : lz[j]? = some (.int .i64 n)) : c[j]? = some (.int .i64 (cInt c j)) := by
  obtain ⟨l, hl, e⟩ := h.lits ht
  obtain ⟨m, hm⟩ := alike_get (keyLits_alike hz hl) j hj
  have : c[j]? = some (.int .i64 m) := by rw [e, List.getElem?_map, hm]; rfl
  unfold cInt
  rw [this]
def zCoin : List Value := List.replicate 5 (.int .i64 0) ++ (List.replicate 32 (.int .u8 0) ++ List.replicate 4 (.int .i64 0))
def zHash : List Value := List.replicate 32 (.int .u8 0)
def zNode : List Value := List.replicate 2 (.int .i64 0)
def zCtx : List Value := List.replicate 32 (.int .u8 0) ++ List.replicate 2 (.int .i64 0)
def lCoin : List Lit := List.replicate 5 (.int .i64 0) ++ (List.replicate 32 (.int .u8 0) ++ List.replicate 4 (.int .i64 0))
theorem kCoin : Try.prog.keyLits 9 31 zCoin = some lCoin := by kernel_rfl
theorem okCoin : okc 31 zCoin := ⟨by kernel_rfl, by rw [kCoin]; rfl⟩
theorem okNode : okc 33 zNode := ⟨by kernel_rfl, by kernel_rfl⟩
theorem okCtx : okc 35 zCtx := ⟨by kernel_rfl, by kernel_rfl⟩
theorem okCoin.at {c : List Value} (h : okc 31 c) {j : Nat} (hj : j < 5) : c[j]? = some (.int .i64 (cInt c j)) :=
  h.int tCoin kCoin (n := 0) (by rcases j with _ | _ | _ | _ | _ | j <;> first | rfl | omega)
/-- the pseudonym of a spend's coin -/
def Sp.ca (s : Sp) : Int := cInt s.cn 4
theorem sameS_iff {s t : Sp} (h : SpOk s) (h' : SpOk t) : sameS s t ↔ s = t := by
  constructor
  · rintro ⟨h1, h2, h3, h4, h5, h6, h7⟩
    have e1 := (eqc_iff tCoin h.cn h'.cn).1 h1
    have e2 := (eqc_iff tNode h.nd h'.nd).1 h2
    have e3 := (eqc_iff tCtx h.cx h'.cx).1 h3
    have e6 : s.pa = t.pa := List.ext_getElem h6 fun k hk hk' => (eqc_iff tHash (h.pa _ (List.getElem_mem hk)) (h'.pa _ (List.getElem_mem hk'))).1 (h7 k hk hk')
    cases s; cases t
    simp only at e1 e2 e3 h4 h5 e6
    subst e1 e2 e3 h4 h5 e6
    rfl
  · rintro rfl
    exact sameS.refl s
theorem spc_one {s : Sp} (h : SpOk s) {la pa : Value} (h1 : la.oneCell' = true) (h2 : pa.oneCell' = true) : ∀ v ∈ spc s la pa, v.oneCell' = true := by
  intro v hv
  unfold spc at hv
  simp only [List.mem_append, List.mem_cons, List.not_mem_nil, or_false] at hv
  rcases hv with hv | hv | hv | rfl | rfl | rfl
  · exact h.cn.one tCoin v hv
  · exact h.nd.one tNode v hv
  · exact h.cx.one tCtx v hv
  · exact h1
  · rfl
  · exact h2
/-! ### uses -/
structure Us where
  ua : Int
  ub : Int
  sp : Sp
  lf : Int
/-- a use's cells -/
def usc (u : Us) (la pa : Value) : List Value := .int .i64 u.ua :: .int .i64 u.ub :: (spc u.sp la pa ++ [.int .i64 u.lf])
theorem usc_len {u : Us} (h : SpOk u.sp) (la pa : Value) : (usc u la pa).length = 83 := by unfold usc; simp [spc_len h]
theorem usc_sp {u : Us} (h : SpOk u.sp) (la pa : Value) (j : Nat) (hj : j < (spc u.sp la pa).length) : (usc u la pa)[2 + j]? = (spc u.sp la pa)[j]? := by
  unfold usc
  rw [show 2 + j = j + 1 + 1 by omega, List.getElem?_cons_succ, List.getElem?_cons_succ, List.getElem?_append_left hj]
theorem usc_sp' {u : Us} (h : SpOk u.sp) (la pa : Value) {j i : Nat} (e : i = 2 + j) (hj : j < 80) {v : Value} (hv : (spc u.sp la pa)[j]? = some v) : (usc u la pa)[i]? = some v := by
  rw [e, usc_sp h la pa j (by rw [spc_len h]; exact hj)]; exact hv
theorem usc_lf {u : Us} (h : SpOk u.sp) (la pa : Value) : (usc u la pa)[82]? = some (.int .i64 u.lf) := by
  unfold usc
  rw [List.getElem?_cons_succ, List.getElem?_cons_succ, List.getElem?_append_right (by rw [spc_len h]; omega), spc_len h]; rfl
theorem spc_ca {s : Sp} (h : SpOk s) (la pa : Value) {j : Nat} (hj : j < 5) : (spc s la pa)[j]? = some (.int .i64 (cInt s.cn j)) := by
  have := spc_cn h la pa j (by rw [h.cn.len wCoin]; omega)
  rw [Nat.zero_add] at this
  rw [this]
  exact okCoin.at h.cn hj
theorem usc_tail {u : Us} (h : SpOk u.sp) (la pa : Value) : (usc u la pa)[79]? = some la ∧ (usc u la pa)[80]? = some (.int .i64 u.sp.pi) ∧ (usc u la pa)[81]? = some pa := by
  obtain ⟨h1, h2, h3⟩ := spc_tail h la pa
  exact ⟨usc_sp' h la pa (j := 77) rfl (by omega) h1, usc_sp' h la pa (j := 78) rfl (by omega) h2, usc_sp' h la pa (j := 79) rfl (by omega) h3⟩
theorem usc_cn {u : Us} (h : SpOk u.sp) (la pa : Value) (j : Nat) (hj : j < u.sp.cn.length) : (usc u la pa)[2 + j]? = u.sp.cn[j]? := by
  have hl := h.cn.len wCoin
  rw [usc_sp h la pa j (by rw [spc_len h]; omega)]
  have := spc_cn h la pa j hj
  rwa [Nat.zero_add] at this
theorem usc_one {u : Us} (h : SpOk u.sp) {la pa : Value} (h1 : la.oneCell' = true) (h2 : pa.oneCell' = true) : ∀ v ∈ usc u la pa, v.oneCell' = true := by
  intro v hv
  unfold usc at hv
  simp only [List.mem_cons, List.mem_append, List.not_mem_nil, or_false] at hv
  rcases hv with rfl | rfl | hv | rfl
  · rfl
  · rfl
  · exact spc_one h h1 h2 v hv
  · rfl
/-- cells 79 and 81 set: other leaves, another path -/
theorem spc_setL {s : Sp} (h : SpOk s) (la pa la' : Value) : (spc s la pa).set 77 la' = spc s la' pa := by
  unfold spc
  rw [List.set_append_right _ _ (by rw [h.cn.len wCoin]; omega), h.cn.len wCoin, List.set_append_right _ _ (by rw [h.nd.len wNode]; omega), h.nd.len wNode, List.set_append_right _ _ (by rw [h.cx.len wCtx]; omega), h.cx.len wCtx]; rfl
theorem spc_setP {s : Sp} (h : SpOk s) (la pa pa' : Value) : (spc s la pa).set 79 pa' = spc s la pa' := by
  unfold spc
  rw [List.set_append_right _ _ (by rw [h.cn.len wCoin]; omega), h.cn.len wCoin, List.set_append_right _ _ (by rw [h.nd.len wNode]; omega), h.nd.len wNode, List.set_append_right _ _ (by rw [h.cx.len wCtx]; omega), h.cx.len wCtx]; rfl
theorem usc_set {u : Us} (h : SpOk u.sp) (la pa : Value) {j : Nat} (hj : j < 80) (v : Value) : (usc u la pa).set (2 + j) v = .int .i64 u.ua :: .int .i64 u.ub :: ((spc u.sp la pa).set j v ++ [.int .i64 u.lf]) := by
  unfold usc
  rw [show 2 + j = j + 1 + 1 by omega, List.set_cons_succ, List.set_cons_succ, List.set_append_left _ _ (by rw [spc_len h]; exact hj)]
theorem usc_setL {u : Us} (h : SpOk u.sp) (la pa la' : Value) : (usc u la pa).set 79 la' = usc u la' pa := by
  rw [show 79 = 2 + 77 from rfl, usc_set h la pa (by omega), spc_setL h]; rfl
theorem usc_setP {u : Us} (h : SpOk u.sp) (la pa pa' : Value) : (usc u la pa).set 81 pa' = usc u la pa' := by
  rw [show 81 = 2 + 79 from rfl, usc_set h la pa (by omega), spc_setP h]; rfl
def zS : Sp := ⟨zCoin, zNode, zCtx, [], 0, []⟩
def zU : Us := ⟨0, 0, zS, 0⟩
theorem zS_ok : SpOk zS := ⟨okCoin, okNode, okCtx, by intro c hc; cases hc⟩
def nilV : Value := .slice none 0 0
theorem zero_use : (Try.prog.info? 44).map (fun i => (i.zero, i.size, i.bytes)) = some (some (.agg (usc zU nilV nilV).toArray), 83, 248) := by kernel_rfl
theorem zero_spend : (Try.prog.info? 41).map (fun i => (i.zero, i.size, i.bytes)) = some (some (.agg (spc zS nilV nilV).toArray), 80, 224) := by kernel_rfl
theorem szUse : (Try.prog.info? 44).map (·.size) = some 83 := by kernel_rfl
theorem szSpend : (Try.prog.info? 41).map (·.size) = some 80 := by kernel_rfl
theorem zvUse (w : World) : (zeroValue 44).run Try.prog w = .ok (.agg (usc zU nilV nilV).toArray) w := (zero_of_info (n := 83) (by kernel_rfl)).1 w
theorem zvSpend (w : World) : (zeroValue 41).run Try.prog w = .ok (.agg (spc zS nilV nilV).toArray) w := (zero_of_info (n := 80) (by kernel_rfl)).1 w
/-! ### facts -/
/-- a spend's leaves and path lie in memory -/
def gSp (s : Sp) (la pa : Value) : GF where
  at_ w D := SpOk s ∧ Rw w D la s.lv.length 3 (lcl s.lv) ∧ Rw w D pa s.pa.length 32 s.pa.flatten
  turn h hs hD hc := ⟨h.1, h.2.1.turn hs hD hc, h.2.2.turn hs hD hc⟩
/-- a use with its slices -/
structure Uv where
  u : Us
  la : Value
  pa : Value
def uvc (x : Uv) : List Value := usc x.u x.la x.pa
def gUv (x : Uv) : GF := gSp x.u.sp x.la x.pa
def gUd (L : List Uv) : GF where
  at_ w D := ∀ x ∈ L, (gUv x).at_ w D
  turn h hs hD hc x hx := (gUv x).turn (h x hx) hs hD hc
def ucl (L : List Uv) : List Value := (L.map uvc).flatten
/-- the slice v reads as the uses L -/
def gUl (v : Value) (L : List Uv) : GF where
  at_ w D := Rw w D v L.length 83 (ucl L) ∧ (gUd L).at_ w D
  turn h hs hD hc := ⟨h.1.turn hs hD hc, (gUd L).turn h.2 hs hD hc⟩
/-- the cells cs lie at offset o of block b -/
def gRg (b o : Nat) (cs : List Value) : GF where
  at_ w D := (b < w.heap.size ∧ D b) ∧ w.rangeAt b o cs
  turn h hs hD hc := ⟨⟨Nat.lt_of_lt_of_le h.1.1 hs, hD _ h.1.1 h.1.2⟩, fun j v hv => (hc _ _ h.1.1 h.1.2).trans (h.2 j v hv)⟩
theorem Rw.oneV {w : World} {D : Nat → Prop} {v : Value} {n k : Nat} {cs : List Value} (h : Rw w D v n k cs) : v.oneCell' = true := by obtain ⟨ao, c, rfl⟩ := h.len; rfl
theorem gSp.one {w : World} {D : Nat → Prop} {s : Sp} {la pa : Value} (h : (gSp s la pa).at_ w D) : ∀ v ∈ spc s la pa, v.oneCell' = true := spc_one h.1 h.2.1.oneV h.2.2.oneV
theorem gUv.one {w : World} {D : Nat → Prop} {x : Uv} (h : (gUv x).at_ w D) : ∀ v ∈ uvc x, v.oneCell' = true := usc_one h.1 h.2.1.oneV h.2.2.oneV
theorem gUv.len {w : World} {D : Nat → Prop} {x : Uv} (h : (gUv x).at_ w D) : (uvc x).length = 83 := usc_len h.1 _ _
theorem gUd.len {w : World} {D : Nat → Prop} {L : List Uv} (h : (gUd L).at_ w D) : ∀ c ∈ L.map uvc, c.length = 83 := by
  intro c hc
  obtain ⟨x, hx, rfl⟩ := List.mem_map.1 hc
  exact gUv.len (h x hx)
theorem ucl_len {w : World} {D : Nat → Prop} {L : List Uv} (h : (gUd L).at_ w D) : (ucl L).length = L.length * 83 := by
  have := flat_len (gUd.len h)
  rwa [List.length_map] at this
theorem ucl_one {w : World} {D : Nat → Prop} {L : List Uv} (h : (gUd L).at_ w D) : ∀ v ∈ ucl L, v.oneCell' = true := by
  intro v hv
  obtain ⟨c, hc, hv⟩ := List.mem_flatten.1 hv
  obtain ⟨x, hx, rfl⟩ := List.mem_map.1 hc
  exact gUv.one (h x hx) v hv
theorem ucl_app (L M : List Uv) : ucl (L ++ M) = ucl L ++ ucl M := by unfold ucl; simp
theorem ucl_one1 (x : Uv) : ucl [x] = uvc x := by unfold ucl; simp
theorem Env.spOk {D0 : Nat → Prop} {w W : World} {F : List Bx} {G : List Fct} (h : Env D0 w F G W) (i : Nat) {s : Sp} {la pa : Value} (e : G[i]? = some (.gn (gSp s la pa))) : SpOk s := (h.fct.get i e).1
/-- a spend's leaves and path as facts -/
theorem Env.elS {D0 : Nat → Prop} {w W : World} {F : List Bx} {G : List Fct} (h : Env D0 w F G W) (i : Nat) {s : Sp} {la pa : Value} (e : G[i]? = some (.gn (gSp s la pa))) :
    ∃ xa xk ya yk, la = .slice xa s.lv.length xk ∧ pa = .slice ya s.pa.length yk ∧ Env D0 w F (.rw (.slice xa s.lv.length xk) s.lv.length 3 (lcl s.lv) :: .rw (.slice ya s.pa.length yk) s.pa.length 32 s.pa.flatten :: G) W := by
  have hg : (gSp s la pa).at_ W (DF D0 w.heap.size F) := h.fct.get i e
  obtain ⟨xa, xk, rfl⟩ := hg.2.1.len
  obtain ⟨ya, yk, rfl⟩ := hg.2.2.len
  exact ⟨xa, xk, ya, yk, rfl, rfl, (h.note (.rw _ _ _ _) hg.2.2).note (.rw _ _ _ _) hg.2.1⟩
/-- element k of a list of uses -/
theorem Env.elU {D0 : Nat → Prop} {w W : World} {F : List Bx} {G : List Fct} (h : Env D0 w F G W) (i : Nat) {b off n j : Nat} {L : List Uv} (e : G[i]? = some (.gn (gUl (.slice (some ⟨b, off, none⟩) n j) L))) {k : Nat} (hk : k < L.length) {x : Uv} (hx : L[k] = x) :
    Env D0 w F (.gn (gRg b (off + k * 83) (uvc x)) :: .gn (gUv x) :: G) W := by
  have hg : (gUl (.slice (some ⟨b, off, none⟩) n j) L).at_ W (DF D0 w.heap.size F) := h.fct.get i e
  have hr := hg.1
  have hn : n = L.length := by obtain ⟨_, _, h1, _⟩ := hr; simp only [Value.slice.injEq] at h1; exact h1.2.1
  subst hn
  have hd := hg.2 x (by rw [← hx]; exact List.getElem_mem hk)
  have hw := Rw.whole (L := L.map uvc) hr (by simp) (gUd.len hg.2) (k := k) (by simpa using hk)
  rw [List.getElem_map, hx] at hw
  have hb : b < W.heap.size ∧ DF D0 w.heap.size F b := by
    obtain ⟨ao, cap, h1, _, _, _, _, h6⟩ := hr
    obtain ⟨b', off', k1, k2, k3⟩ := h6 (by omega)
    cases h1
    cases k1
    exact k2
  exact (h.note (.gn (gUv x)) hd).note (.gn (gRg b (off + k * 83) (uvc x))) ⟨hb, hw⟩
theorem gRg.cell {w : World} {D : Nat → Prop} {b o : Nat} {cs : List Value} (h : (gRg b o cs).at_ w D) {j : Nat} {v : Value} (hv : cs[j]? = some v) : w.cell? ⟨b, o + j, none⟩ = some v := h.2 j v hv
theorem gRg.sub {w : World} {b o i : Nat} {cs c : List Value} (h : w.rangeAt b o cs) (hc : ∀ j, j < c.length → cs[i + j]? = c[j]?) : w.rangeAt b (o + i) c := fun j v hv => by
  have := h (i + j) v (by rw [hc j (List.getElem?_eq_some_iff.1 hv).1]; exact hv)
  rwa [← Nat.add_assoc] at this
/-! ### wholes into boxes -/
theorem Box.there {B b : Nat} {T : TypeId} {cs : List Value} {W : World} (h : Box B b T cs W) {n : Nat} (hn : n ≤ cs.length) : W.there b 0 n := fun j hj => by
  rw [Nat.zero_add]
  exact ⟨by rw [h.cell j (List.getElem?_eq_getElem (by omega))]; rfl, h.frozen j⟩
theorem sets_other {b k : Nat} (hne : b ≠ k) : ∀ (vs : List Value) (o : Nat) (W : World), (W.setCells k o vs).heap[b]? = W.heap[b]?
  | [], _, _ => rfl
  | v :: r, o, W => (sets_other hne r (o + 1) _).trans (Below.heap_setCell _ _ _ _ hne)
theorem sets_size : ∀ (vs : List Value) (o : Nat) (W : World) (k : Nat), (W.setCells k o vs).heap.size = W.heap.size
  | [], _, _, _ => rfl
  | v :: r, o, W, k => (sets_size r (o + 1) _ k).trans (by simp)
theorem Box.sets {B b : Nat} {T : TypeId} : ∀ (vs : List Value) (o : Nat) (cs : List Value) (W : World), Box B b T cs W → Box B b T (vs.zipIdx.foldl (fun c x => c.set (o + x.2) x.1) cs) (W.setCells b o vs) := by
  intro vs
  induction vs with
  | nil => exact fun _ _ _ h => h
  | cons v r ih =>
    intro o cs W h
    have := ih (o + 1) (cs.set o v) (W.setCell ⟨b, o, none⟩ v) (h.set o v)
    have e : ∀ (l : List Value) (m : Nat) (c : List Value), (l.zipIdx (m + 1)).foldl (fun c x => c.set (o + x.2) x.1) c = (l.zipIdx m).foldl (fun c x => c.set (o + 1 + x.2) x.1) c := by
      intro l
      induction l with
      | nil => intro _ _; rfl
      | cons y l ih2 =>
        intro m c
        simp only [List.zipIdx_cons, List.foldl_cons]
        rw [ih2 (m + 1), show o + (m + 1) = o + 1 + m by omega]
    simp only [List.zipIdx_cons, List.foldl_cons, Nat.add_zero]
    rw [e r 0]
    exact this
theorem foldl_set : ∀ (vs : List Value) (o m : Nat) (cs : List Value), o + m + vs.length ≤ cs.length → (vs.zipIdx m).foldl (fun c x => c.set (o + x.2) x.1) cs = cs.take (o + m) ++ (vs ++ cs.drop (o + m + vs.length))
  | [], o, m, cs, h => by simp
  | v :: r, o, m, cs, h => by
    simp only [List.length_cons] at h
    rw [List.zipIdx_cons, List.foldl_cons, foldl_set r o (m + 1) _ (by simp; omega)]
    have h1 : (cs.set (o + m) v).take (o + (m + 1)) = cs.take (o + m) ++ [v] := by
      rw [show o + (m + 1) = (o + m) + 1 by omega, List.take_add_one, List.take_set_of_le (by omega), List.getElem?_set_self (by omega)]; rfl
    have h2 : (cs.set (o + m) v).drop (o + (m + 1) + r.length) = cs.drop (o + m + (v :: r).length) := by
      rw [List.drop_set_of_lt (by omega), List.length_cons]; congr 1; omega
    rw [h1, h2]; simp
theorem Box.whole {B b : Nat} {T : TypeId} {cs cs' : List Value} {W : World} (h : Box B b T cs W) (hl : cs'.length = cs.length) : Box B b T cs' (W.setCells b 0 cs') := by
  have := Box.sets cs' 0 cs W h
  rw [foldl_set cs' 0 0 cs (by omega)] at this
  simpa [hl] using this
theorem HeldF.setsAway {B g : Nat} {o : Nat} {vs : List Value} {F : List Bx} {W : World} (h : HeldF B F W) (hne : ∀ p ∈ F, p.1 ≠ g) : HeldF B F (W.setCells g o vs) := by
  induction F with
  | nil => exact trivial
  | cons p F ih => exact ⟨⟨h.1.1, (sets_other (hne p (by simp)) _ _ _).trans h.1.2⟩, h.2.1, ih h.2.2 (fun q hq => hne q (by simp [hq]))⟩
theorem HeldF.whole {B : Nat} {F : List Bx} {W : World} (h : HeldF B F W) : ∀ (i : Nat) {b : Nat} {T : TypeId} {cs cs' : List Value}, F[i]? = some (b, T, cs) → cs'.length = cs.length → HeldF B (F.set i (b, T, cs')) (W.setCells b 0 cs') := by
  induction F with
  | nil => intro i b T cs cs' e; simp at e
  | cons p F ih =>
    intro i b T cs cs' e hl
    rcases i with _ | i
    · simp only [List.getElem?_cons_zero, Option.some.injEq] at e
      subst e
      exact ⟨h.1.whole hl, h.2.1, h.2.2.setsAway h.2.1⟩
    · have e' : F[i]? = some (b, T, cs) := by simpa using e
      have hm : (b, T, cs) ∈ F := List.mem_of_getElem? e'
      refine ⟨⟨h.1.1, (sets_other (fun e2 => h.2.1 _ hm e2.symm) _ _ _).trans h.1.2⟩, ?_, ih h.2.2 i e' hl⟩
      intro q hq
      rcases List.mem_or_eq_of_mem_set hq with hq | rfl
      · exact h.2.1 q hq
      · exact h.2.1 (b, T, cs) hm
/-- a whole goes into a box -/
theorem Env.whole {D0 : Nat → Prop} {w W : World} {F : List Bx} {G : List Fct} (h : Env D0 w F G W) (i : Nat) {b : Nat} {T : TypeId} {cs : List Value} (cs' : List Value) (e : F[i]? = some (b, T, cs)) (hl : cs'.length = cs.length) :
    Env D0 w (F.set i (b, T, cs')) G (W.setCells b 0 cs') := by
  have hB := h.box.get i e
  have hm : (b, T, cs) ∈ F := List.mem_of_getElem? e
  have hbel : ∀ (vs : List Value) (o : Nat) (X : World), Below w.heap.size w X → Below w.heap.size w (X.setCells b o vs) := by
    intro vs
    induction vs with
    | nil => exact fun _ _ h => h
    | cons v r ih => exact fun o X hX => ih (o + 1) _ (hX.setCell hB.1 v)
  refine ⟨hbel _ _ _ h.bel, h.box.whole i e hl, h.fct.turn (Nat.le_of_eq (sets_size _ _ _ _).symm) (fun x _ hd => ⟨fun p hp => ?_, hd.2⟩) (fun x j _ hd => World.cell?_of_block (sets_other (fun e2 => hd.1 _ hm e2.symm) _ _ _))⟩
  rcases List.mem_or_eq_of_mem_set hp with hp | rfl
  · exact hd.1 p hp
  · exact hd.1 (b, T, cs) hm
/-! ### wholes as single steps -/
theorem isRowUse : ∃ d, Try.prog.underlying 44 = some d ∧ d.isRow = true := ⟨_, Try.underlying44, rfl⟩
theorem isRowSpend : ∃ d, Try.prog.underlying 41 = some d ∧ d.isRow = true := ⟨_, Try.underlying41, rfl⟩
/-- a type of n cells -/
structure Big (T : TypeId) (n : Nat) : Prop where
  row : ∃ d, Try.prog.underlying T = some d ∧ d.isRow = true
  size : (Try.prog.info? T).map (·.size) = some n
theorem bUse : Big 44 83 := ⟨isRowUse, szUse⟩
theorem bSpend : Big 41 80 := ⟨isRowSpend, szSpend⟩
theorem bCoin : Big 31 41 := ⟨wCoin.row, wCoin.size⟩
section
variable {ops : Array Oper} {rest : List Oper} {op : Oper} {a : Act} {w : World} {Q : Exit → Act → World → Prop} {T : TypeId} {n : Nat}
theorem wpl_load_b (W : Big T n) (b o : Nat) (hx : ∃ x, op.op = .load T x ∧ a.eval x = .pointer (some ⟨b, o, none⟩)) (hw : Region.wanted op (yielded ops a.tmps) = true) (cs : List Value) (hl : cs.length = n) (hc : w.rangeAt b o cs) (h : wpList Try.prog ops Q rest (a.put op.dst (.agg cs.toArray)) w) : wpList Try.prog ops Q (op :: rest) a w := by
  obtain ⟨d, hu, hd⟩ := W.row
  obtain ⟨x, ho, hx⟩ := hx
  exact wpl_want hw fun K hK => wp_load_mid T x ho b o hx cs d hc hu hd (by rw [W.size, hl]) (hK _ _ h)
theorem exec_load_b (W : Big T n) {oi : Oper} {ev : Operand → Value} (x : Operand) (ho : oi.op = .load T x) (b o : Nat) (hx : ev x = .pointer (some ⟨b, o, none⟩)) (cs : List Value) (hl : cs.length = n) (hc : w.rangeAt b o cs) :
    (execOp ev oi).run Try.prog w = .ok (.value (.agg cs.toArray)) w := by
  obtain ⟨d, hu, hd⟩ := W.row
  exact exec_load_big T x ho b o hx cs d hc hu hd (by rw [W.size, hl])
theorem wpl_store_b (W : Big T n) (b o : Nat) (cs : List Value) (hx : ∃ x y, op.op = .store T x y ∧ a.eval x = .pointer (some ⟨b, o, none⟩) ∧ a.eval y = .agg cs.toArray) (hw : Region.wanted op (yielded ops a.tmps) = true) (hl : cs.length = n) (ht : w.there b o n) (h1 : ∀ v ∈ cs, v.oneCell' = true)
    (h : wpList Try.prog ops Q rest (a.put op.dst undef) (w.setCells b o cs)) : wpList Try.prog ops Q (op :: rest) a w := by
  obtain ⟨x, y, ho, hx, hy⟩ := hx
  exact wpl_want hw fun K hK => wp_store_mid T x y ho b o cs.toArray hx hy (by simpa [hl] using ht) (by rw [W.size]; simp [hl]) (all_oneCell_toArray h1) (hK _ _ (by simpa using h))
/-- a new variable -/
theorem wpl_alloc_b (hgd : op.guard = none) (ho : op.op = .alloc T) (cs : List Value) (hz : ∀ w, (zeroValue T).run Try.prog w = .ok (.agg cs.toArray) w)
    (h : wpList Try.prog ops Q rest (a.put op.dst (.pointer (some ⟨w.heap.size, 0, none⟩))) (w.alloc (.cells cs.toArray T))) : wpList Try.prog ops Q (op :: rest) a w := by
  refine Great.wpList_runTo hgd op.dst rfl _ _ ?_ h
  unfold execOp
  simp [ho, Instr.alloc, newVar, hz, Value.cells, go_sem]
end
end Go.Proofs.Ytfnnfmefihiefaa

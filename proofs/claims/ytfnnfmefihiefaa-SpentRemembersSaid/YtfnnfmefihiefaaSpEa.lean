/- Lists of spends: facts about them, an element, the way in. -/
import Derived.Test.YtfnnfmefihiefaaSpAa
import Derived.Test.YtfnnfmefihiefaaSpFr
namespace Go.Proofs.Ytfnnfmefihiefaa
open Go.ChangeShapes Go.WideShapes Go.ChangeAt Go.RowKit Go.Deep
set_option linter.unusedVariables false
set_option linter.unusedSimpArgs false
/-- a spend with its slices -/
structure Sv where
  s : Sp
  la : Value
  pa : Value
def svc (x : Sv) : List Value := spc x.s x.la x.pa
def scl (L : List Sv) : List Value := (L.map svc).flatten
def gSv (x : Sv) : GF := gSp x.s x.la x.pa
def gSd (L : List Sv) : GF where
  at_ w D := ∀ x ∈ L, (gSv x).at_ w D
  turn h hs hD hc x hx := (gSv x).turn (h x hx) hs hD hc
/-- the slice v reads as the spends L -/
def gSl (v : Value) (L : List Sv) : GF where
  at_ w D := Rw w D v L.length 80 (scl L) ∧ (gSd L).at_ w D
  turn h hs hD hc := ⟨h.1.turn hs hD hc, (gSd L).turn h.2 hs hD hc⟩
theorem gSv.len {w : World} {D : Nat → Prop} {x : Sv} (h : (gSv x).at_ w D) : (svc x).length = 80 := spc_len h.1 _ _
theorem gSv.one {w : World} {D : Nat → Prop} {x : Sv} (h : (gSv x).at_ w D) : ∀ v ∈ svc x, v.oneCell' = true := gSp.one h
theorem gSd.len {w : World} {D : Nat → Prop} {L : List Sv} (h : (gSd L).at_ w D) : ∀ c ∈ L.map svc, c.length = 80 := by
  intro c hc
  obtain ⟨x, hx, rfl⟩ := List.mem_map.1 hc
  exact gSv.len (h x hx)
theorem gSl.len {W : World} {D : Nat → Prop} {v : Value} {X : List Sv} (h : (gSl v X).at_ W D) : ∃ a k, v = .slice a X.length k := h.1.len
theorem gSl.addr {W : World} {D : Nat → Prop} {a : Option Addr} {n c : Nat} {X : List Sv} (h : (gSl (.slice a n c) X).at_ W D) (hk : X ≠ []) : ∃ b o, a = some ⟨b, o, none⟩ := by
  have hr := h.1
  have hn : n = X.length := by obtain ⟨_, _, h1, _⟩ := hr; simp only [Value.slice.injEq] at h1; exact h1.2.1
  subst hn
  exact Rw.addr hr (by intro e; exact hk (List.length_eq_zero_iff.1 e))
/-- element k of a list of spends -/
theorem Env.elV {D0 : Nat → Prop} {w W : World} {F : List Bx} {G : List Fct} (h : Env D0 w F G W) (i : Nat) {b off n j : Nat} {L : List Sv} (e : G[i]? = some (.gn (gSl (.slice (some ⟨b, off, none⟩) n j) L))) {k : Nat} (hk : k < L.length) {x : Sv} (hx : L[k] = x) :
    Env D0 w F (.gn (gRg b (off + k * 80) (svc x)) :: .gn (gSv x) :: G) W := by
  have hg : (gSl (.slice (some ⟨b, off, none⟩) n j) L).at_ W (DF D0 w.heap.size F) := h.fct.get i e
  have hr := hg.1
  have hn : n = L.length := by obtain ⟨_, _, h1, _⟩ := hr; simp only [Value.slice.injEq] at h1; exact h1.2.1
  subst hn
  have hd := hg.2 x (by rw [← hx]; exact List.getElem_mem hk)
  have hw := Rw.whole (L := L.map svc) hr (by simp) (gSd.len hg.2) (k := k) (by simpa using hk)
  rw [List.getElem_map, hx] at hw
  have hb : b < W.heap.size ∧ DF D0 w.heap.size F b := by
    obtain ⟨ao, cap, h1, _, _, _, _, h6⟩ := hr
    obtain ⟨b', off', k1, k2, k3⟩ := h6 (by omega)
    cases h1
    cases k1
    exact k2
  exact (h.note (.gn (gSv x)) hd).note (.gn (gRg b (off + k * 80) (svc x))) ⟨hb, hw⟩
theorem smap_get {X : List Sv} {k : Nat} (h : k < X.length) {x : Sv} (e : X[k] = x) : (X.map Sv.s)[k]? = some x.s := by rw [List.getElem?_map, List.getElem?_eq_getElem h, e]; rfl
section
variable {H : Type} {enc : TypeId × Value → H} {W : World}
theorem trod_spv {fuel : Nat} {cs : List Value} {x : DataW H × List MemPlace} (h : DataW.trod enc Try.prog W 0 (fun _ => true) true fuel 41 cs = some x) : ∃ q : Sv, cs = svc q ∧ (gSv q).at_ W (fun _ => True) := by
  obtain ⟨s, la, pa, e, h⟩ := trod_spend h
  exact ⟨⟨s, la, pa⟩, e, h⟩
set_option maxRecDepth 100000 in
theorem open_spl {r : Reach} {b0 : Nat} {v : Value} {d : DataW H} {ps : List MemPlace} (hval : Value.okWide Try.prog W r b0 61 v) (hd : DataW.Trod enc Try.prog W 0 (fun _ => true) true 61 v d ps) :
    ∃ (l : List Sv) (xa : Option Addr) (xk : Nat), v = .slice xa l.length xk ∧ Fct.at W (fun _ => True) (.gn (gSl (.slice xa l.length xk) l)) := by
  obtain ⟨a, l0, c, rfl⟩ := okWide_slice Try.underlying61 hval
  obtain ⟨fuel, hf⟩ := hd
  obtain ⟨L, h1, h2⟩ := open_rows (c0 := .slice a l0 c) (⟨zS, nilV, nilV⟩ : Sv) svc (fun q => (gSv q).at_ W (fun _ => True)) Try.underlying61 cells_sp (by omega) trod_spv (fun a h => gSv.one h) (fun a h => gSv.len h) hf
  obtain ⟨xa, xk, e⟩ := h1.len
  exact ⟨L, xa, xk, e, by rw [← e]; exact ⟨h1, h2⟩⟩
end
end Go.Proofs.Ytfnnfmefihiefaa

/- What Merge and Drop give is bounded; elements of lists of pairs. -/
import Derived.Test.YtfnnfmefihiefaaSpBc
import Derived.Test.YtfnnfmefihiefaaSpBd
import Derived.Test.YtfnnfmefihiefaaSpCb
namespace Go.Proofs.Ytfnnfmefihiefaa
open Go.RowKit
set_option linter.unusedVariables false
set_option linter.unusedSimpArgs false
theorem mergeRes_bd {P : Us → Prop} {X Y L : List Us} {C : List (Us × Us)} {n : Int} (hx : ∀ u ∈ X, P u) (hy : ∀ u ∈ Y, P u) (e : mergeRes X Y = (L, C, n)) : (∀ u ∈ L, P u) ∧ (∀ p ∈ C, P p.1 ∧ P p.2) ∧ L.length ≤ X.length + Y.length ∧ C.length ≤ Y.length := by
  have hN := mgN_use hx hy Y.length
  have hl := mgN_len (X := X) (Y := Y) Y.length
  unfold mergeRes at e
  split at e
  · cases e; exact ⟨fun u hu => (by cases hu), fun u hu => (by cases hu), Nat.zero_le _, Nat.zero_le _⟩
  · split at e
    · cases e; exact ⟨fun u hu => (by cases hu), fun u hu => (by cases hu), Nat.zero_le _, Nat.zero_le _⟩
    · cases e; exact ⟨hN, fun p hp => ⟨hN _ (mgN_pair _ hp).1, hy _ (mgN_pair _ hp).2.1⟩, hl.2.1, hl.2.2⟩
theorem dropRes_bd {P : Us → Prop} {X L : List Us} {l : List (List Value)} {now m n : Int} (hx : ∀ u ∈ X, P u) (e : dropRes X l now = (L, m, n)) : (∀ u ∈ L, P u) ∧ L.length ≤ X.length := by
  unfold dropRes at e
  split at e
  · cases e; exact ⟨fun u hu => (by cases hu), Nat.zero_le _⟩
  · split at e
    · cases e; exact ⟨fun u hu => (by cases hu), Nat.zero_le _⟩
    · cases e; exact ⟨fun u hu => hx u (List.mem_filter.1 hu).1, keepN_len _ _ _⟩
theorem pmap_len {X : List Pv} {L : List (Us × Us)} (e : X.map pus = L) : X.length = L.length := by rw [← e, List.length_map]
theorem pmap_get {X : List Pv} {k : Nat} (h : k < X.length) {x : Pv} (e : X[k] = x) : (X.map pus)[k]? = some (x.1.u, x.2.u) := by rw [List.getElem?_map, List.getElem?_eq_getElem h, e]; rfl
theorem Env.elP {D0 : Nat → Prop} {w W : World} {F : List Bx} {G : List Fct} (h : Env D0 w F G W) (i : Nat) {b off n j : Nat} {L : List Pv} (e : G[i]? = some (.gn (gPl (.slice (some ⟨b, off, none⟩) n j) L))) {k : Nat} (hk : k < L.length) {x y : Uv} (hx : L[k] = (x, y)) :
    Env D0 w F (.gn (gRg b (off + k * 166) (uvc x)) :: .gn (gUv x) :: .gn (gRg b (off + k * 166 + 83) (uvc y)) :: .gn (gUv y) :: G) W := by
  have hg : (gPl (.slice (some ⟨b, off, none⟩) n j) L).at_ W (DF D0 w.heap.size F) := h.fct.get i e
  have hr := hg.1
  have hn : n = L.length := by obtain ⟨_, _, h1, _⟩ := hr; simp only [Value.slice.injEq] at h1; exact h1.2.1
  subst hn
  have hd := hg.2 (x, y) (by rw [← hx]; exact List.getElem_mem hk)
  have hw := Rw.whole (L := L.map pcc) hr (by simp) (gPd.len hg.2) (k := k) (by simpa using hk)
  rw [List.getElem_map, hx] at hw
  have hb : b < W.heap.size ∧ DF D0 w.heap.size F b := by
    obtain ⟨ao, cap, h1, _, _, _, _, h6⟩ := hr
    obtain ⟨b', off', k1, k2, k3⟩ := h6 (by omega)
    cases h1
    cases k1
    exact k2
  have l1 := gUv.len hd.1
  have w1 : W.rangeAt b (off + k * 166) (uvc x) := fun j v hv => hw j v (by unfold pcc; rw [List.getElem?_append_left (List.getElem?_eq_some_iff.1 hv).1]; exact hv)
  have w2 : W.rangeAt b (off + k * 166 + 83) (uvc y) := fun j v hv => by
    have := hw (83 + j) v (by unfold pcc; rw [List.getElem?_append_right (by rw [l1]; omega), l1, show 83 + j - 83 = j by omega]; exact hv)
    rwa [← Nat.add_assoc] at this
  exact (((h.note (.gn (gUv y)) hd.2).note (.gn (gRg b (off + k * 166 + 83) (uvc y))) ⟨hb, w2⟩).note (.gn (gUv x)) hd.1).note (.gn (gRg b (off + k * 166) (uvc x))) ⟨hb, w1⟩
end Go.Proofs.Ytfnnfmefihiefaa

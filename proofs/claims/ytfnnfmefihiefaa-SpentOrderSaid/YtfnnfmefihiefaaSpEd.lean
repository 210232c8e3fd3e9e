/- Pairs of uses as wholes: loads, a variable that holds a pair. -/
import Derived.Test.YtfnnfmefihiefaaSpEc
namespace Go.Proofs.Ytfnnfmefihiefaa
open Go.RowKit
set_option linter.unusedVariables false
set_option linter.unusedSimpArgs false
def zP : List Value := usc zU nilV nilV ++ usc zU nilV nilV
theorem bPair : Big 78 166 := ⟨⟨_, Try.underlying78, rfl⟩, by kernel_rfl⟩
theorem zvPair (w : World) : (zeroValue 78).run Try.prog w = .ok (.agg zP.toArray) w := (zero_of_info (n := 166) (by kernel_rfl)).1 w
section
variable {x y : Uv}
theorem pcc_lenS (hx : SpOk x.u.sp) (hy : SpOk y.u.sp) : (pcc (x, y)).length = 166 := by
  show (usc x.u x.la x.pa ++ usc y.u y.la y.pa).length = 166
  rw [List.length_append, usc_len hx, usc_len hy]
theorem zP_len : zP.length = 166 := by
  show (usc zU nilV nilV ++ usc zU nilV nilV).length = 166
  rw [List.length_append, usc_len (u := zU) zS_ok]
theorem pcc_l (hx : SpOk x.u.sp) {j : Nat} {v : Value} (h : (usc x.u x.la x.pa)[j]? = some v) : (pcc (x, y))[j]? = some v := by
  show (usc x.u x.la x.pa ++ usc y.u y.la y.pa)[j]? = _
  rw [List.getElem?_append_left (List.getElem?_eq_some_iff.1 h).1]; exact h
theorem pcc_r (hx : SpOk x.u.sp) {i j : Nat} {v : Value} (e : i = 83 + j) (h : (usc y.u y.la y.pa)[j]? = some v) : (pcc (x, y))[i]? = some v := by
  subst e
  show (usc x.u x.la x.pa ++ usc y.u y.la y.pa)[83 + j]? = _
  rw [List.getElem?_append_right (by rw [usc_len hx]; omega), usc_len hx, show 83 + j - 83 = j by omega]; exact h
theorem pcc_sp1 (hx : SpOk x.u.sp) (j : Nat) (hj : j < (spc x.u.sp x.la x.pa).length) : (pcc (x, y))[2 + j]? = (spc x.u.sp x.la x.pa)[j]? := by
  have h := usc_sp hx x.la x.pa j hj
  rw [List.getElem?_eq_getElem hj] at h ⊢
  exact pcc_l hx h
theorem pcc_sp2 (hx : SpOk x.u.sp) (hy : SpOk y.u.sp) (j : Nat) (hj : j < (spc y.u.sp y.la y.pa).length) : (pcc (x, y))[85 + j]? = (spc y.u.sp y.la y.pa)[j]? := by
  have h := usc_sp hy y.la y.pa j hj
  rw [List.getElem?_eq_getElem hj] at h ⊢
  exact pcc_r hx (by omega) h
theorem pcc_oneS (hx : ∀ v ∈ usc x.u x.la x.pa, v.oneCell' = true) (hy : ∀ v ∈ usc y.u y.la y.pa, v.oneCell' = true) : ∀ v ∈ pcc (x, y), v.oneCell' = true := fun v hv => by
  rcases List.mem_append.1 (show v ∈ usc x.u x.la x.pa ++ usc y.u y.la y.pa from hv) with h | h
  · exact hx v h
  · exact hy v h
end
theorem usone {w : World} {D : Nat → Prop} {u : Us} {la pa : Value} (h : (gSp u.sp la pa).at_ w D) : ∀ v ∈ usc u la pa, v.oneCell' = true := usc_one h.1 h.2.1.oneV h.2.2.oneV
theorem Bd.valid {L : List Us} (h : ValidT L) {u : Us} (hu : u ∈ L) : Bd u := st_bd (h.2.1 u hu).1
theorem Env.elPw {D0 : Nat → Prop} {w W : World} {F : List Bx} {G : List Fct} (h : Env D0 w F G W) (i : Nat) {b off n j : Nat} {L : List Pv} (e : G[i]? = some (.gn (gPl (.slice (some ⟨b, off, none⟩) n j) L))) {k : Nat} (hk : k < L.length) {x y : Uv} (hx : L[k] = (x, y)) :
    Env D0 w F (.gn (gRg b (off + k * 166) (pcc (x, y))) :: .gn (gUv x) :: .gn (gUv y) :: G) W := by
  have hg : (gPl (.slice (some ⟨b, off, none⟩) n j) L).at_ W (DF D0 w.heap.size F) := h.fct.get i e
  have hr := hg.1
  have hn : n = L.length := by obtain ⟨_, _, h1, _⟩ := hr; simp only [Value.slice.injEq] at h1; exact h1.2.1
  subst hn
  have hd := hg.2 (x, y) (by rw [← hx]; exact List.getElem_mem hk)
  have hw := Rw.whole (L := L.map pcc) hr (by simp) (gPd.len hg.2) (k := k) (by simpa using hk)
  rw [List.getElem_map, hx] at hw
  have hb : b < W.heap.size ∧ DF D0 w.heap.size F b := by
    obtain ⟨ao, cap, h1, _, _, _, _, h6⟩ := hr
    obtain ⟨b', off', k1, k2, k3⟩ := h6 (by omega)
    cases h1
    cases k1
    exact k2
  exact ((h.note (.gn (gUv y)) hd.2).note (.gn (gUv x)) hd.1).note (.gn (gRg b (off + k * 166) (pcc (x, y)))) ⟨hb, hw⟩
end Go.Proofs.Ytfnnfmefihiefaa

/- Send, Receive and Go keep a line valid; the first message that has arrived. -/
import Derived.Test.YtbcfcdcomboljaaLinLa
namespace Go.Proofs.Ytbcfcdcomboljaa
open Go.RowKit
set_option linter.unusedVariables false
set_option linter.unusedSimpArgs false
theorem Srt.pw {l : List Int} (h : Srt l) : l.Pairwise (· ≤ ·) := by
  have mono : ∀ d i (h' : i + d < l.length), l[i] ≤ l[i + d] := by
    intro d
    induction d with
    | zero => intro i h'; exact Int.le_refl _
    | succ d ih => intro i h'; have h1 := ih i (by omega); have h2 := h (i + d) (by omega); have e : i + d + 1 = i + (d + 1) := by omega
                   simp only [e] at h2; omega
  rw [List.pairwise_iff_getElem]
  intro i j hi hj hij
  have := mono (j - i) i (by omega)
  have e : i + (j - i) = j := by omega
  simp only [e] at this; exact this
theorem Srt.of {l : List Int} (h : l.Pairwise (· ≤ ·)) : Srt l := fun i hi => List.pairwise_iff_getElem.1 h i (i + 1) (by omega) hi (by omega)
/-- a valid line, by its members -/
theorem LinOk.mem {l : Lin} (h : LinOk l) : (∀ m ∈ l.L, msgOk m = true) ∧ (∀ t ∈ l.ats, wth t 1099512627776 = true) ∧ l.ats.Pairwise (· ≤ ·) ∧ ∀ p ∈ l.ft, fateOk p.1 p.2 = true := by
  obtain ⟨⟨h1, h2, h3, h4⟩, hs, hm, hf⟩ := h
  refine ⟨fun m hm' => ?_, fun t ht => ?_, hs.pw, fun p hp => ?_⟩
  · obtain ⟨k, hk, rfl⟩ := List.getElem_of_mem hm'; exact (hm k hk (by omega)).1
  · obtain ⟨k, hk, rfl⟩ := List.getElem_of_mem ht; exact (hm k (by omega) hk).2
  · obtain ⟨k, hk, rfl⟩ := List.getElem_of_mem hp; exact hf k hk
theorem LinOk.of {l : Lin} (h1 : wth l.nw 1099511627776 = true) (h2 : l.L.length = l.ats.length) (h3 : l.L.length ≤ 1000) (h4 : l.ft.length ≤ 1000) (a : ∀ m ∈ l.L, msgOk m = true) (b : ∀ t ∈ l.ats, wth t 1099512627776 = true) (c : l.ats.Pairwise (· ≤ ·)) (d : ∀ p ∈ l.ft, fateOk p.1 p.2 = true) : LinOk l :=
  ⟨⟨h1, h2, h3, h4⟩, Srt.of c, fun k h h' => ⟨a _ (List.getElem_mem h), b _ (List.getElem_mem h')⟩, fun k h => d _ (List.getElem_mem h)⟩
theorem mem_rep {α : Type} {l : List α} {i k : Nat} {x y : α} (h : y ∈ rep l i k x) : y ∈ l ∨ y = x := by
  unfold rep at h
  rcases List.mem_append.1 h with h | h
  · exact .inl (List.mem_of_mem_take h)
  · rcases List.mem_append.1 h with h | h
    · exact .inr (List.eq_of_mem_replicate h)
    · exact .inl (List.mem_of_mem_drop h)
theorem rep_pw {l : List Int} {t : Int} {i : Nat} (k : Nat) (hp : PlaceIs l t i) (h : l.Pairwise (· ≤ ·)) : (rep l i k t).Pairwise (· ≤ ·) := by
  unfold rep
  obtain ⟨h1, h2, h3⟩ := hp
  have lo : ∀ a ∈ l.take i, a ≤ t := by
    intro a ha
    obtain ⟨j, hj, rfl⟩ := List.getElem_of_mem ha
    rw [List.length_take] at hj
    rw [List.getElem_take]
    exact h2 j (by omega) (by omega)
  have hi : ∀ a ∈ l.drop i, t ≤ a := by
    intro a ha
    obtain ⟨j, hj, rfl⟩ := List.getElem_of_mem ha
    rw [List.length_drop] at hj
    rw [List.getElem_drop]
    have := h3 (i + j) (by omega) (by omega)
    omega
  rw [List.pairwise_append, List.pairwise_append]
  refine ⟨h.sublist (List.take_sublist _ _), ⟨?_, h.sublist (List.drop_sublist _ _), fun a ha b hb => ?_⟩, fun a ha b hb => ?_⟩
  · rw [List.pairwise_iff_forall_sublist]
    intro a b hab
    have h1 : a ∈ List.replicate k t := hab.subset (by simp)
    have h2 : b ∈ List.replicate k t := hab.subset (by simp)
    rw [List.eq_of_mem_replicate h1, List.eq_of_mem_replicate h2]; exact Int.le_refl _
  · rw [List.eq_of_mem_replicate ha]; exact hi b hb
  · rcases List.mem_append.1 hb with hb | hb
    · rw [List.eq_of_mem_replicate hb]; exact lo a ha
    · have := lo a ha; have := hi b hb; omega
theorem sendL_ok {l : Lin} {M : Msg} {p c : Nat} {d : Int} (h : LinOk l) (hm : msgOk M = true) (hf : fate0 l = ((c : Int), d)) (hp : PlaceIs l.ats (l.nw + d) p) (hn : l.L.length + c ≤ 1000) : LinOk (sendL l M p c d) := by
  obtain ⟨b1, _, b3⟩ := snd_bounds h
  rw [hf] at b3
  have hH := h.1
  obtain ⟨m1, m2, m3, m4⟩ := h.mem
  obtain ⟨h1, h2, h3, h4⟩ := hH
  have e1 : (sendL l M p c d).L.length = l.L.length + c := rep_len (by have := hp.1; omega) c M
  have e2 : (sendL l M p c d).ats.length = l.ats.length + c := rep_len hp.1 c _
  have e3 : (sendL l M p c d).ft.length = l.ft.length - 1 := List.length_drop
  refine .of h1 (by omega) (by omega) (by omega) (fun m hm' => ?_) (fun t ht => ?_) (rep_pw c hp m3) (fun p hp => m4 p (List.mem_of_mem_drop hp))
  · rcases mem_rep hm' with hm' | rfl
    · exact m1 m hm'
    · exact hm
  · rcases mem_rep ht with ht | rfl
    · exact m2 t ht
    · unfold wth; simp only [Bool.and_eq_true, decide_eq_true_eq]; dsimp only at b3; omega
theorem recvL_ok {l : Lin} (h : LinOk l) {f : Nat} (hf : f < l.L.length) : LinOk (recvL l f) := by
  have hH := h.1
  obtain ⟨m1, m2, m3, m4⟩ := h.mem
  obtain ⟨h1, h2, h3, h4⟩ := hH
  have e1 : (recvL l f).L.length = l.L.length - 1 := List.length_eraseIdx_of_lt hf
  have e2 : (recvL l f).ats.length = l.ats.length - 1 := List.length_eraseIdx_of_lt (by omega)
  exact .of h1 (by omega) (by omega) h4 (fun m hm => m1 m (List.mem_of_mem_eraseIdx hm)) (fun t ht => m2 t (List.mem_of_mem_eraseIdx ht)) (m3.sublist (List.eraseIdx_sublist _ _)) m4
theorem goL_ok {l : Lin} (h : LinOk l) {now : Int} (hw : wth now 1099511627776 = true) : LinOk (goL l now) := ⟨⟨hw, h.1.2⟩, h.2.1, h.2.2.1, h.2.2.2⟩
theorem ok_big {l : Lin} (h : LinOk l) : Big l := by
  obtain ⟨⟨_, h1, h2, h3⟩, _, hm, _⟩ := h
  refine ⟨⟨by omega, by omega, by omega⟩, fun k hk => ?_⟩
  have := (hm k hk (by omega)).1
  unfold msgOk at this
  simp only [Bool.and_eq_true, decide_eq_true_eq] at this
  omega
/-- the first that has arrived, or none -/
theorem first_or (l : Lin) (pt : Int) : (∃ f : Nat, f < l.L.length ∧ FirstIs l pt (f : Int) ∧ arrB l pt f = true) ∨ (FirstIs l pt (-1) ∧ ∀ j, arrB l pt j = false) := by
  have key : ∀ n, (∀ j, j < n → arrB l pt j = false) ∨ ∃ f, (∀ j, j < f → arrB l pt j = false) ∧ arrB l pt f = true := by
    intro n
    induction n with
    | zero => exact .inl fun j h => absurd h (Nat.not_lt_zero _)
    | succ n ih =>
      rcases ih with ih | ih
      · cases hc : arrB l pt n with
        | false => exact .inl fun j hj => by by_cases e : j = n; (· subst e; exact hc); exact ih j (by omega)
        | true => exact .inr ⟨n, ih, hc⟩
      · exact .inr ih
  rcases key l.L.length with h | ⟨f, h1, h2⟩
  · have hA : ∀ j, arrB l pt j = false := fun j => by
      cases hc : arrB l pt j with
      | false => rfl
      | true => have := (arrB_lt hc).1; rw [h j (by omega)] at hc; cases hc
    exact .inr ⟨.inr ⟨rfl, hA⟩, hA⟩
  · exact .inl ⟨f, (arrB_lt h2).1, .inl ⟨f, rfl, h2, h1⟩, h2⟩
theorem rep_map {α β : Type} (g : α → β) (l : List α) (i k : Nat) (x : α) : rep (l.map g) i k (g x) = (rep l i k x).map g := by
  unfold rep; simp
end Go.Proofs.Ytbcfcdcomboljaa

/- What a walk holds behind Insert, Delete and append on lists of the call's own. -/
import Derived.Test.YtbcfcdcomboljaaLinC
namespace Go.Proofs.Ytbcfcdcomboljaa
open Go.RowKit
set_option linter.unusedVariables false
section
variable {D0 : Nat → Prop} {w W W' : World} {F A B' sg : List Bx} {G : List Fct} {cs : List Value} {v : Value} {L : List Msg} {l : List Int}
theorem seg_ne {g gv : Nat} {T Tv : TypeId} {news : List Value} {j : Nat} (E : Env D0 w (A ++ ((g, T, cs) :: B')) G W) (hV : A[j]? = some (gv, Tv, news)) : gv ≠ g := by
  have h := (held_iff.1 E.box).2
  rw [List.pairwise_append] at h
  exact h.2.2 _ (List.mem_of_getElem? hV) (g, T, cs) (by simp)
theorem seg_box {gv : Nat} {Tv : TypeId} {news S : List Value} {R : List Bx} {j : Nat} (E : Env D0 w (A ++ R) G W) (hV : A[j]? = some (gv, Tv, news)) : Box w.heap.size gv Tv news W :=
  (held_iff.1 E.box).1 (gv, Tv, news) (by simp [List.mem_of_getElem? hV])
theorem Env.cast {F' : List Bx} (E : Env D0 w F G W) (e : F = F') : Env D0 w F' G W := e ▸ E
theorem set_seg (p q : Bx) : (A ++ (p :: B')).set A.length q = A ++ (q :: B') := by simp
/-- slices.Insert of one message into a list that is nil or the call's own -/
theorem insertL_env {n : Nat} {M : Msg} {bo : Option Addr} {bk i gv j : Nat} {Tv : TypeId} (E : Env D0 w F G W) (hF : F = A ++ (sg ++ B')) (hL : LS sg cs v L) (hmc : Fct.at W (DF D0 w.heap.size F) (.mc cs L)) (hb : Bs W (DF D0 w.heap.size F) (.slice bo M.body.length bk) M.body)
    (hV : A[j]? = some (gv, Tv, mcells M (.slice bo M.body.length bk))) (en : L.length = n) (hi : i ≤ n) (hn : n ≤ 1000000) :
    Calls Try.prog 55 #[v, .int .i64 (i : Int), .slice (some ⟨gv, 0, none⟩) 1 1] W fun e W' => ∃ g' cap' cs', e = .returned (.slice (some ⟨g', 0, none⟩) (n + 1) cap') ∧ Hid (LS [(g', 24, cs')] cs' (.slice (some ⟨g', 0, none⟩) (n + 1) cap') (insL L i M)) ∧ Hid (Env D0 w (A ++ ((g', 24, cs') :: B')) (.mc cs' (insL L i M) :: G) W') := by
  subst hF en
  have hone : ∀ u ∈ mcells M (.slice bo M.body.length bk), u.oneCell' = true := by
    intro u hu; simp only [mcells, List.mem_cons, List.not_mem_nil, or_false] at hu
    rcases hu with rfl | rfl | rfl | rfl | rfl <;> rfl
  have hVB := seg_box (S := []) E hV
  have E2 := (E.note (.mc cs L) hmc).note (.bs _ _) hb
  have hil := insL_length L i M hi
  rcases hL with ⟨rfl, rfl, rfl, rfl⟩ | ⟨g, cap, rfl, rfl, h1, h2, h3⟩
  · obtain rfl : i = 0 := by simpa using hi
    have ho : W.ownsRow W.heap.size 24 5 (.slice none 0 0) 0 [] := ⟨rfl, .inl ⟨rfl, rfl⟩⟩
    refine (insert_end (B := W.heap.size) (gv := gv) (n := 0) ho (Nat.le_refl _) (by omega) rfl (fun k u hu => hVB.cell k hu) hone).mono ?_
    rintro e W' ⟨⟨v', rfl, ho'⟩, hg⟩
    have hbw : Below W.heap.size W W' := ⟨hg.os, hg.tape, hg.output, hg.size, fun k hk => hg.block k hk (by simp [Value.ownBlock])⟩
    rcases ho'.2 with ⟨_, h0⟩ | ⟨g', cap', cur, rfl, hgg, hh, k2, k3, k4, k5⟩
    · omega
    have E3 := E2.gotBox hbw (g := g') (T := 24) (cs := cur.toList) ⟨hgg, by rw [Array.toArray_toList]; exact hh⟩
    have E4 := E3.perm (F' := A ++ ((g', 24, cur.toList) :: B')) (by rw [List.nil_append]; exact List.perm_middle.symm)
    have hnew := mc_ins (M := M) (i := 0) (cs' := cur.toList) (E4.fc 1 rfl) (by simp) (by simp) (by simpa [insC] using k5) (E4.fc 0 rfl)
    exact ⟨g', cap', cur.toList, rfl, Lib.hid (.inr ⟨g', cap', rfl, by rw [hil], by rw [hil]; exact k2, by unfold maxLen at k3; omega, by simpa using k4⟩), Lib.hid (E4.forget.forget.note _ hnew)⟩
  · have e : (A ++ ([(g, 24, cs)] ++ B'))[A.length]? = some (g, 24, cs) := by simp
    have hX := E.bx A.length e
    refine (insert_m hX h3 h2 hi h1 hn rfl hVB.2 (seg_ne E hV) hone (mc_cells hmc (by omega))).mono ?_
    rintro e' W' ⟨g', cap', cs', rfl, ⟨q1, q2, q3⟩, hgg, hh, ht, hoff⟩
    have E3 := E2.ins A.length e hoff hgg hh
    have e3 : (A ++ ([(g, 24, cs)] ++ B')).set A.length (g', 24, cs') = A ++ ((g', 24, cs') :: B') := by simp
    rw [e3] at E3
    have hnew := mc_ins (E3.fc 1 rfl) (by omega) hi ht (E3.fc 0 rfl)
    exact ⟨g', cap', cs', rfl, Lib.hid (.inr ⟨g', cap', rfl, by rw [hil], by rw [hil]; exact q1, q2, q3⟩), Lib.hid (E3.forget.forget.note _ hnew)⟩
/-- a list of ints with one put in -/
def insI (l : List Int) (i : Nat) (x : Int) : List Int := l.take i ++ x :: l.drop i
theorem insI_length (l : List Int) (i : Nat) (x : Int) (h : i ≤ l.length) : (insI l i x).length = l.length + 1 := by simp [insI]; omega
theorem icl_ins (l : List Int) (i : Nat) (x : Int) : icl (insI l i x) = (icl l).take i ++ [.int .i64 x] ++ (icl l).drop i := by simp [icl, insI, List.map_take, List.map_drop]
theorem insertI_env {n : Nat} {x : Int} {i gv j : Nat} {Tv : TypeId} (E : Env D0 w F G W) (hF : F = A ++ (sg ++ B')) (hL : OI sg cs v l) (hV : A[j]? = some (gv, Tv, [.int .i64 x])) (en : l.length = n) (hi : i ≤ n) (hn : n ≤ 1000000) :
    Calls Try.prog 66 #[v, .int .i64 (i : Int), .slice (some ⟨gv, 0, none⟩) 1 1] W fun e W' => ∃ g' cap' cs', e = .returned (.slice (some ⟨g', 0, none⟩) (n + 1) cap') ∧ Hid (OI [(g', 3, cs')] cs' (.slice (some ⟨g', 0, none⟩) (n + 1) cap') (insI l i x)) ∧ Hid (Env D0 w (A ++ ((g', 3, cs') :: B')) G W') := by
  subst hF en
  have hone : ∀ u ∈ [Value.int .i64 x], u.oneCell' = true := by
    intro u hu; simp only [List.mem_cons, List.not_mem_nil, or_false] at hu; subst hu; rfl
  have hVB := seg_box (S := []) E hV
  have hil := insI_length l i x hi
  obtain ⟨hL, htk⟩ := hL
  rcases hL with ⟨rfl, rfl, rfl, h0⟩ | ⟨g, cap, rfl, rfl, h1, h2, h3⟩
  · obtain rfl : l = [] := List.length_eq_zero_iff.1 h0
    obtain rfl : i = 0 := by simpa using hi
    have ho : W.ownsRow W.heap.size 3 1 (.slice none 0 0) 0 [] := ⟨rfl, .inl ⟨rfl, rfl⟩⟩
    refine (insert_endInt (B := W.heap.size) (gv := gv) (n := 0) ho (Nat.le_refl _) (by omega) rfl (fun k u hu => hVB.cell k hu) hone).mono ?_
    rintro e W' ⟨⟨v', rfl, ho'⟩, hg⟩
    have hbw : Below W.heap.size W W' := ⟨hg.os, hg.tape, hg.output, hg.size, fun k hk => hg.block k hk (by simp [Value.ownBlock])⟩
    rcases ho'.2 with ⟨_, h0⟩ | ⟨g', cap', cur, rfl, hgg, hh, k2, k3, k4, k5⟩
    · omega
    have E3 := E.gotBox hbw (g := g') (T := 3) (cs := cur.toList) ⟨hgg, by rw [Array.toArray_toList]; exact hh⟩
    have E4 := E3.perm (F' := A ++ ((g', 3, cur.toList) :: B')) (by rw [List.nil_append]; exact List.perm_middle.symm)
    exact ⟨g', cap', cur.toList, rfl, Lib.hid ⟨.inr ⟨g', cap', rfl, by rw [hil], by rw [hil]; exact k2, by unfold maxLen at k3; omega, by simpa using k4⟩, by simpa [icl_ins, icl, insI] using k5⟩, Lib.hid E4⟩
  · have e : (A ++ ([(g, 3, cs)] ++ B'))[A.length]? = some (g, 3, cs) := by simp
    have hX := E.bx A.length e
    refine (insert_mInt hX (by simpa using h3) h2 hi h1 hn rfl hVB.2 (seg_ne E hV) hone (by rw [htk]; exact icl_one l)).mono ?_
    rintro e' W' ⟨g', cap', cs', rfl, ⟨q1, q2, q3⟩, hgg, hh, ht, hoff⟩
    have E3 := E.ins A.length e hoff hgg hh
    have e3 : (A ++ ([(g, 3, cs)] ++ B')).set A.length (g', 3, cs') = A ++ ((g', 3, cs') :: B') := by simp
    rw [e3] at E3
    exact ⟨g', cap', cs', rfl, Lib.hid ⟨.inr ⟨g', cap', rfl, by rw [hil], by rw [hil]; exact q1, q2, by simpa using q3⟩, by rw [hil, ht, icl_ins, insCInt, htk]⟩, Lib.hid E3⟩
theorem mc_del {D : Nat → Prop} {cs' : List Value} {m i : Nat} (h : Fct.at W D (.mc cs L)) (hl : L.length * 5 ≤ cs.length) (hm : L.length = m + 1) (hi : i ≤ m) (ht : cs'.take (m * 5) = cs.take (i * 5) ++ (cs.take ((m + 1) * 5)).drop ((i + 1) * 5)) : Fct.at W D (.mc cs' (L.eraseIdx i)) := by
  intro k hk
  have hk' : k < m := by rw [List.length_eraseIdx] at hk; split at hk <;> omega
  have g : ∀ r, r < 5 → cs'[k * 5 + r]? = if k < i then cs[k * 5 + r]? else cs[(k + 1) * 5 + r]? := by
    intro r hr
    have e1 : cs'[k * 5 + r]? = (cs'.take (m * 5))[k * 5 + r]? := by rw [List.getElem?_take, if_pos (by omega)]
    rw [e1, ht]
    by_cases h : k < i
    · rw [if_pos h, List.getElem?_append_left (by simp; omega), List.getElem?_take, if_pos (by omega)]
    · rw [if_neg h, List.getElem?_append_right (by simp; omega), List.getElem?_drop, List.getElem?_take, if_pos (by simp; omega)]
      congr 1; simp <;> omega
  have hg : (L.eraseIdx i)[k] = if h : k < i then L[k]'(by omega) else L[k + 1]'(by omega) := by
    rw [List.getElem_eraseIdx]
  rw [hg]
  by_cases h1 : k < i
  · rw [dif_pos h1]
    obtain ⟨p0, p1, p2, p3, a, q, p4, p5⟩ := h k (by omega)
    refine ⟨?_, ?_, ?_, ?_, a, q, ?_, p5⟩
    · have := g 0 (by omega); rw [if_pos h1] at this; exact this.trans p0
    · have := g 1 (by omega); rw [if_pos h1] at this; exact this.trans p1
    · have := g 2 (by omega); rw [if_pos h1] at this; exact this.trans p2
    · have := g 3 (by omega); rw [if_pos h1] at this; exact this.trans p3
    · have := g 4 (by omega); rw [if_pos h1] at this; exact this.trans p4
  · rw [dif_neg h1]
    obtain ⟨p0, p1, p2, p3, a, q, p4, p5⟩ := h (k + 1) (by omega)
    refine ⟨?_, ?_, ?_, ?_, a, q, ?_, p5⟩
    · have := g 0 (by omega); rw [if_neg h1] at this; exact this.trans p0
    · have := g 1 (by omega); rw [if_neg h1] at this; exact this.trans p1
    · have := g 2 (by omega); rw [if_neg h1] at this; exact this.trans p2
    · have := g 3 (by omega); rw [if_neg h1] at this; exact this.trans p3
    · have := g 4 (by omega); rw [if_neg h1] at this; exact this.trans p4
/-- slices.Delete of one message of a list of the call's own -/
theorem deleteL_env {i m : Nat} (E : Env D0 w F G W) (hF : F = A ++ (sg ++ B')) (hL : LS sg cs v L) (hmc : Fct.at W (DF D0 w.heap.size F) (.mc cs L)) (hm : L.length = m + 1) (hi : i ≤ m) :
    Calls Try.prog 68 #[v, .int .i64 (i : Int), .int .i64 ((i : Int) + 1)] W fun e W' => ∃ g' cap' cs', e = .returned (.slice (some ⟨g', 0, none⟩) m cap') ∧ Hid (LS [(g', 24, cs')] cs' (.slice (some ⟨g', 0, none⟩) m cap') (L.eraseIdx i)) ∧ Hid (Env D0 w (A ++ ((g', 24, cs') :: B')) (.mc cs' (L.eraseIdx i) :: G) W') := by
  subst hF
  have E2 := E.note (.mc cs L) hmc
  have hil : (L.eraseIdx i).length = m := by rw [List.length_eraseIdx, if_pos (by omega)]; omega
  rcases hL with ⟨rfl, rfl, rfl, rfl⟩ | ⟨g, cap, rfl, rfl, h1, h2, h3⟩
  · simp at hm
  · have e : (A ++ ([(g, 24, cs)] ++ B'))[A.length]? = some (g, 24, cs) := by simp
    have hX := E.bx A.length e
    have hone := mc_cells hmc (by omega)
    rw [hm] at hone h1 ⊢
    refine (deleteM hX h3 h2 hi h1 hone).mono ?_
    rintro e' W' ⟨cs', rfl, q1, hh, ht, hoff⟩
    have E3 := E2.ins A.length e hoff (.inl rfl) hh
    have e3 : (A ++ ([(g, 24, cs)] ++ B')).set A.length (g, 24, cs') = A ++ ((g, 24, cs') :: B') := by simp
    rw [e3] at E3
    have hnew := mc_del (E3.fc 0 rfl) (by omega) hm hi ht
    exact ⟨g, cap, cs', rfl, Lib.hid (.inr ⟨g, cap, rfl, by rw [hil], by rw [hil]; omega, h2, q1⟩), Lib.hid (E3.forget.note _ hnew)⟩
theorem deleteI_env {i m : Nat} (E : Env D0 w F G W) (hF : F = A ++ (sg ++ B')) (hL : OI sg cs v l) (hm : l.length = m + 1) (hi : i ≤ m) :
    Calls Try.prog 69 #[v, .int .i64 (i : Int), .int .i64 ((i : Int) + 1)] W fun e W' => ∃ g' cap' cs', e = .returned (.slice (some ⟨g', 0, none⟩) m cap') ∧ Hid (OI [(g', 3, cs')] cs' (.slice (some ⟨g', 0, none⟩) m cap') (l.eraseIdx i)) ∧ Hid (Env D0 w (A ++ ((g', 3, cs') :: B')) G W') := by
  subst hF
  have hil : (l.eraseIdx i).length = m := by rw [List.length_eraseIdx, if_pos (by omega)]; omega
  obtain ⟨hL, htk⟩ := hL
  rcases hL with ⟨rfl, rfl, rfl, h0⟩ | ⟨g, cap, rfl, rfl, h1, h2, h3⟩
  · omega
  · have e : (A ++ ([(g, 3, cs)] ++ B'))[A.length]? = some (g, 3, cs) := by simp
    have hX := E.bx A.length e
    rw [hm] at htk h1 ⊢
    refine (deleteInt hX (by simpa using h3) h2 hi h1 (by rw [htk]; exact icl_one l)).mono ?_
    rintro e' W' ⟨cs', rfl, q1, hh, ht, hoff⟩
    have E3 := E.ins A.length e hoff (.inl rfl) hh
    have e3 : (A ++ ([(g, 3, cs)] ++ B')).set A.length (g, 3, cs') = A ++ ((g, 3, cs') :: B') := by simp
    rw [e3] at E3
    have hnew : cs'.take (l.eraseIdx i).length = icl (l.eraseIdx i) := by
      have e5 : cs.take i = (icl l).take i := by rw [← htk, List.take_take, Nat.min_eq_left (by omega)]
      rw [hil, ht, htk, e5, List.eraseIdx_eq_take_drop_succ]
      simp [icl, List.map_take, List.map_drop]
    exact ⟨g, cap, cs', rfl, Lib.hid ⟨.inr ⟨g, cap, rfl, by rw [hil], by rw [hil]; omega, h2, by simpa using q1⟩, hnew⟩, Lib.hid E3⟩
end
end Go.Proofs.Ytbcfcdcomboljaa

/- LineReliable: the lines of the law, as lists of the numbers of the messages that are still there. -/
import Derived.Test.YtbcfcdcomboljaaLinLa
namespace Go.Proofs.Ytbcfcdcomboljaa
open Go.RowKit
set_option linter.unusedVariables false
set_option linter.unusedSimpArgs false
def bpt (b : List Nat) (j : Nat) : Nat := b.getD j 0 % 4
def toM (b : List Nat) (j : Nat) : Msg := ⟨0, (bpt b j : Int), 0, (j : Int), []⟩
def RL (b : List Nat) (now : Int) (js : List Nat) : Lin := ⟨now, js.map (toM b), js.map (fun _ => 0), []⟩
def rg (k : Nat) : List Nat := List.range k
theorem bpt_lt (b : List Nat) (j : Nat) : bpt b j < 4 := Nat.mod_lt _ (by decide)
theorem toM_ok (b : List Nat) {j : Nat} (h : j < 60) : msgOk (toM b j) = true := by
  have := bpt_lt b j
  unfold msgOk toM par
  simp only [List.length_nil, Bool.and_eq_true, decide_eq_true_eq]
  omega
theorem RL_ok {b : List Nat} {now : Int} {js : List Nat} (h0 : 0 ≤ now) (h1 : now ≤ 65535) (hl : js.length ≤ 60) (hj : ∀ j ∈ js, j < 60) : LinOk (RL b now js) := by
  refine ⟨⟨?_, ?_, ?_, ?_⟩, ?_, ?_, ?_⟩
  · unfold wth RL; simp only [Bool.and_eq_true, decide_eq_true_eq]; omega
  · simp [RL]
  · simp [RL]; omega
  · simp [RL]
  · intro i h; simp [RL]
  · intro k h h'
    constructor
    · simp only [RL, List.getElem_map]
      exact toM_ok b (hj _ (List.getElem_mem _))
    · simp only [RL, List.getElem_map]; decide
  · intro k h; simp [RL] at h
theorem RL_big {b : List Nat} {now : Int} {js : List Nat} (hl : js.length ≤ 60) : Big (RL b now js) := by
  refine ⟨⟨?_, ?_, ?_⟩, fun k hk => ?_⟩
  · simp [RL]; omega
  · simp [RL]; omega
  · simp [RL]
  · simp [RL, toM]
theorem rep_end {α : Type} (l : List α) (x : α) : rep l l.length 1 x = l ++ [x] := by simp [rep]
theorem RL_place (b : List Nat) (js : List Nat) : PlaceIs (RL b 0 js).ats ((RL b 0 js).nw + 0) js.length := by
  refine ⟨by simp [RL], fun k h _ => by simp [RL], fun k h hk => ?_⟩
  simp [RL] at h; omega
theorem RL_send (b : List Nat) (k : Nat) : sendL (RL b 0 (List.range k)) (toM b k) (List.range k).length 1 0 = RL b 0 (List.range (k + 1)) := by
  have e1 : (List.range k).length = ((List.range k).map (toM b)).length := by simp
  have e2 : (List.range k).length = ((List.range k).map (fun _ => (0 : Int))).length := by simp
  unfold sendL RL
  simp only [List.drop_nil, Int.add_zero]
  congr 1
  · rw [e1, rep_end, List.range_succ, List.map_append]; rfl
  · rw [e2, rep_end, List.range_succ, List.map_append]; rfl
/-- what is left, of n, when those before i are gone to the party p, and all to the parties before -/
def lf_ (b : List Nat) (p i : Nat) (j : Nat) : Bool := decide (p < bpt b j) || (decide (bpt b j = p) && decide (i ≤ j))
def Lf (b : List Nat) (n p i : Nat) : List Nat := (List.range n).filter (lf_ b p i)
theorem Lf_zero (b : List Nat) (n : Nat) : Lf b n 0 0 = List.range n := by
  unfold Lf
  rw [List.filter_eq_self]
  intro j _; unfold lf_; simp; omega
theorem Lf_next (b : List Nat) (n p : Nat) : Lf b n p n = Lf b n (p + 1) 0 := by
  unfold Lf
  refine List.filter_congr fun j hj => ?_
  have := List.mem_range.1 hj
  unfold lf_
  rw [Bool.eq_iff_iff]; simp; omega
theorem Lf_skip {b : List Nat} {p i : Nat} (n : Nat) (h : bpt b i ≠ p) : Lf b n p (i + 1) = Lf b n p i := by
  unfold Lf
  refine List.filter_congr fun j _ => ?_
  unfold lf_
  rw [Bool.eq_iff_iff]; simp
  constructor
  · rintro (h1 | ⟨h1, h2⟩); (· exact .inl h1); exact .inr ⟨h1, by omega⟩
  · rintro (h1 | ⟨h1, h2⟩); (· exact .inl h1)
    refine .inr ⟨h1, ?_⟩
    have : i ≠ j := fun e => h (by rw [e]; exact h1)
    omega
theorem Lf_end (b : List Nat) (n : Nat) : Lf b n 4 0 = [] := by
  unfold Lf
  rw [List.filter_eq_nil_iff]
  intro j _; have := bpt_lt b j; unfold lf_; simp; omega
theorem Lf_mem {b : List Nat} {n p i j : Nat} : j ∈ Lf b n p i ↔ j < n ∧ (p < bpt b j ∨ bpt b j = p ∧ i ≤ j) := by
  unfold Lf lf_; simp [List.mem_filter]
theorem Lf_len (b : List Nat) (n p i : Nat) : (Lf b n p i).length ≤ n := by
  unfold Lf; have := List.length_filter_le (lf_ b p i) (List.range n); simpa using this
theorem Lf_sorted (b : List Nat) (n p i : Nat) : (Lf b n p i).Pairwise (· < ·) := List.Pairwise.filter _ List.pairwise_lt_range
theorem eraseIdx_nodup : ∀ (l : List Nat) (f : Nat) (hf : f < l.length), l.Nodup → l.eraseIdx f = l.filter (fun j => decide (j ≠ l[f]))
  | [], f, hf, _ => absurd hf (by simp)
  | a :: t, 0, _, hn => by
    have h1 := (List.nodup_cons.1 hn).1
    have e : t.filter (fun j => decide (j ≠ a)) = t := List.filter_eq_self.2 fun j hj => decide_eq_true (fun e => h1 (e ▸ hj))
    simp only [List.eraseIdx_cons_zero, List.getElem_cons_zero]
    rw [List.filter_cons_of_neg (by simp), e]
  | a :: t, f + 1, hf, hn => by
    have h1 := List.nodup_cons.1 hn
    have hf' : f < t.length := by simpa using hf
    simp only [List.eraseIdx_cons_succ, List.getElem_cons_succ]
    have h2 : a ≠ t[f] := fun e => h1.1 (by rw [e]; exact List.getElem_mem hf')
    rw [List.filter_cons_of_pos (by simpa using h2), eraseIdx_nodup t f hf' h1.2]
theorem eraseIdx_map' {α β : Type} (g : α → β) : ∀ (l : List α) (f : Nat), (l.map g).eraseIdx f = (l.eraseIdx f).map g
  | [], f => by simp
  | a :: t, 0 => by simp
  | a :: t, f + 1 => by simp [eraseIdx_map' g t f]
/-- where the i-th message stands -/
theorem Lf_at {b : List Nat} {n p i : Nat} (hi : i < n) (h : bpt b i = p) : ∃ f, ∃ hf : f < (Lf b n p i).length, (Lf b n p i)[f] = i ∧ (∀ g (hg : g < (Lf b n p i).length), g < f → bpt b (Lf b n p i)[g] ≠ p) ∧ (Lf b n p i).eraseIdx f = Lf b n p (i + 1) := by
  have hm : i ∈ Lf b n p i := Lf_mem.2 ⟨hi, .inr ⟨h, Nat.le_refl _⟩⟩
  obtain ⟨f, hf, he⟩ := List.getElem_of_mem hm
  have hs := Lf_sorted b n p i
  refine ⟨f, hf, he, fun g hg hgf hp => ?_, ?_⟩
  · have h1 := List.pairwise_iff_getElem.1 hs g f hg hf hgf
    rw [he] at h1
    have := (Lf_mem.1 (List.getElem_mem hg)).2
    omega
  · have hn : (Lf b n p i).Nodup := hs.imp (fun h => Nat.ne_of_lt h)
    rw [eraseIdx_nodup _ f hf hn, he]
    unfold Lf
    rw [List.filter_filter]
    refine List.filter_congr fun j _ => ?_
    unfold lf_
    rw [Bool.eq_iff_iff]; simp
    constructor
    · rintro ⟨h1, h2 | ⟨h2, h3⟩⟩; (· exact .inl h2); exact .inr ⟨h2, by omega⟩
    · rintro (h2 | ⟨h2, h3⟩)
      · exact ⟨fun e => by rw [e] at h2; omega, .inl h2⟩
      · exact ⟨by omega, .inr ⟨h2, by omega⟩⟩
theorem RL_arr {b : List Nat} {now : Int} {js : List Nat} (h0 : 0 ≤ now) (p : Nat) {g : Nat} (hg : g < js.length) : arrB (RL b now js) (p : Int) g = decide (bpt b js[g] = p) := by
  rw [arrB_eq (by simpa [RL] using hg) (by simpa [RL] using hg)]
  simp only [RL, List.getElem_map, toM]
  rw [decide_eq_true h0, Bool.true_and]
  rw [Bool.eq_iff_iff]; simp; omega
theorem RL_arr_out {b : List Nat} {now pt : Int} {js : List Nat} {g : Nat} (hg : ¬ g < js.length) : arrB (RL b now js) pt g = false := by
  cases h : arrB (RL b now js) pt g with
  | false => rfl
  | true => have := (arrB_lt h).1; simp [RL] at this; omega
theorem RL_first {b : List Nat} {now : Int} {n p i f : Nat} (h0 : 0 ≤ now) (hf : f < (Lf b n p i).length) (he : (Lf b n p i)[f] = i) (h : bpt b i = p) (hb : ∀ g (hg : g < (Lf b n p i).length), g < f → bpt b (Lf b n p i)[g] ≠ p) : FirstIs (RL b now (Lf b n p i)) (p : Int) (f : Int) := by
  refine .inl ⟨f, rfl, ?_, fun g hg => ?_⟩
  · rw [RL_arr h0 p hf, he]; exact decide_eq_true h
  · rw [RL_arr h0 p (by omega)]; exact decide_eq_false (hb g (by omega) hg)
theorem RL_none {b : List Nat} {now : Int} {n p : Nat} (h0 : 0 ≤ now) (g : Nat) : arrB (RL b now (Lf b n (p + 1) 0)) (p : Int) g = false := by
  by_cases hg : g < (Lf b n (p + 1) 0).length
  · rw [RL_arr h0 p hg]
    have := (Lf_mem.1 (List.getElem_mem hg)).2
    exact decide_eq_false (by omega)
  · exact RL_arr_out hg
theorem wcnt_zero {l : Lin} {pt : Int} (h : ∀ g, arrB l pt g = false) : ∀ k, wcnt l pt k = 0
  | 0 => rfl
  | k + 1 => by simp [wcnt, wcnt_zero h k, h k]
theorem RL_recv (b : List Nat) (now : Int) (js : List Nat) (f : Nat) : recvL (RL b now js) f = RL b now (js.eraseIdx f) := by
  unfold recvL RL
  simp only [eraseIdx_map']
theorem RL_next (b : List Nat) {now : Int} (js : List Nat) (h : 0 ≤ now) : NextIs (RL b now js) 0 false := .inr ⟨rfl, rfl, fun j hj => by simp [RL]; exact h⟩
theorem RL_go (b : List Nat) (now : Int) (js : List Nat) : goL (RL b 0 js) now = RL b now js := rfl
theorem bpt_rem {W : World} {D : Nat → Prop} {v : Value} {b : List Nat} (hb : Bs W D v b) {j : Nat} (h : j < b.length) : (wrap64 ((b[j] : Nat) : Int)).tmod 4 = (bpt b j : Int) := by
  have h8 : b[j] < 256 := hb.u8 _ (List.getElem_mem h)
  have e : bpt b j = b[j] % 4 := by unfold bpt; rw [List.getD_eq_getElem?_getD, List.getElem?_eq_getElem h]; rfl
  rw [e, IntWalk.wrap64_in _ (by omega), Int.tmod_eq_emod_of_nonneg (by omega)]
  omega
theorem Bs.addr {W : World} {D : Nat → Prop} {a : Option Addr} {n c k : Nat} {l : List Nat} (h : Bs W D (.slice a n c) l) (hk : k < l.length) : ∃ b o, a = some ⟨b, o, none⟩ := by
  obtain ⟨b, o, e, _⟩ := h.byte hk
  exact ⟨b, o, e⟩
/-- a byte of a slice, as a fact -/
theorem Env.elB {D0 : Nat → Prop} {w W : World} {F : List Bx} {G : List Fct} (h : Env D0 w F G W) (i : Nat) {b off n j : Nat} {l : List Nat} (e : G[i]? = some (.bs (.slice (some ⟨b, off, none⟩) n j) l)) (k : Nat) (hk : k < l.length) : Env D0 w F (.ce b (off + k) (.int .u8 (l[k] : Nat)) :: G) W := by
  have hm : Bs W (DF D0 w.heap.size F) (.slice (some ⟨b, off, none⟩) n j) l := h.fct.get i e
  refine h.note _ ?_
  obtain ⟨ao, cap, h1, h2, h3, h4, h5, h6⟩ := hm
  simp only [Value.slice.injEq] at h1
  obtain ⟨rfl, _, _⟩ := h1
  obtain ⟨b', o', he, hb, hc⟩ := h5 (by rintro rfl; simp at hk)
  simp only [Option.some.injEq, Addr.mk.injEq] at he
  obtain ⟨rfl, rfl, _⟩ := he
  refine ⟨hb, ?_⟩
  have := hc k hk
  rwa [List.getD_eq_getElem?_getD, List.getElem?_eq_getElem hk, Option.getD_some] at this
end Go.Proofs.Ytbcfcdcomboljaa

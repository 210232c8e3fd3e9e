/- LineFates: the lines of the law, as lists of the numbers of the letters that are on their way. -/
import Derived.Test.YtbcfcdcomboljaaLinOp
namespace Go.Proofs.Ytbcfcdcomboljaa
open Go.RowKit
set_option linter.unusedVariables false
set_option linter.unusedSimpArgs false
def cp (ft : List (Int × Int)) (j : Nat) : Int := (ft.getD j (0, 0)).1
def dl (ft : List (Int × Int)) (j : Nat) : Int := (ft.getD j (0, 0)).2
def FLn (ft : List (Int × Int)) (now : Int) (js : List Nat) (fts : List (Int × Int)) : Lin := ⟨now, js.map (fun (j : Nat) => letterM (j : Int)), js.map (dl ft), fts⟩
theorem cp_eq {ft : List (Int × Int)} {j : Nat} (h : j < ft.length) : cp ft j = ft[j].1 := by unfold cp; rw [List.getD_eq_getElem?_getD, List.getElem?_eq_getElem h]; rfl
theorem dl_eq {ft : List (Int × Int)} {j : Nat} (h : j < ft.length) : dl ft j = ft[j].2 := by unfold dl; rw [List.getD_eq_getElem?_getD, List.getElem?_eq_getElem h]; rfl
theorem fat_bd {ft : List (Int × Int)} (hf : FatsOk ft) {j : Nat} (h : j < ft.length) : (0 ≤ cp ft j ∧ cp ft j ≤ 3) ∧ 0 ≤ dl ft j ∧ dl ft j ≤ 1000000 := by
  have := hf j h
  rw [cp_eq h, dl_eq h]
  unfold fateOk wth at this
  simp only [Bool.and_eq_true, decide_eq_true_eq] at this
  exact this
theorem eraseIdx_map2 {α β : Type} (g : α → β) : ∀ (l : List α) (f : Nat), (l.map g).eraseIdx f = (l.eraseIdx f).map g
  | [], f => by simp
  | a :: t, 0 => by simp
  | a :: t, f + 1 => by simp [eraseIdx_map2 g t f]
theorem count_er : ∀ (l : List Nat) (f : Nat) (hf : f < l.length) (j : Nat), l.count j = (l.eraseIdx f).count j + (if l[f] = j then 1 else 0)
  | [], f, hf, _ => absurd hf (by simp)
  | a :: t, 0, _, j => by simp [List.count_cons]
  | a :: t, f + 1, hf, j => by
    have := count_er t f (by simpa using hf) j
    simp only [List.eraseIdx_cons_succ, List.count_cons, List.getElem_cons_succ, this]; omega
theorem count_rep (l : List Nat) (p c k j : Nat) : (rep l p c k).count j = l.count j + (if k = j then c else 0) := by
  unfold rep
  rw [List.count_append, List.count_append, List.count_replicate]
  have : l.count j = (l.take p).count j + (l.drop p).count j := by rw [← List.count_append, List.take_append_drop]
  by_cases e : k = j
  · simp [e]; omega
  · simp [e]; omega
/-- behind k sends -/
def FS (ft : List (Int × Int)) (k : Nat) (js : List Nat) : Prop := LinOk (FLn ft 0 js (ft.drop k)) ∧ (∀ j ∈ js, j < k) ∧ (∀ j, j < k → (js.count j : Int) = cp ft j) ∧ js.length ≤ 3 * k
theorem FS.zero {ft : List (Int × Int)} (hl : ft.length ≤ 60) (hf : FatsOk ft) : FS ft 0 [] := by
  refine ⟨.of (by show wth 0 1099511627776 = true; decide) rfl (Nat.zero_le _) (by show (ft.drop 0).length ≤ 1000; simp; omega) (by intro m hm; simp [FLn] at hm) (by intro m hm; simp [FLn] at hm) (by simp [FLn]) (fun p hp => ?_), by simp, fun j hj => by omega, by simp⟩
  have : p ∈ ft := hp
  obtain ⟨k, hk, rfl⟩ := List.getElem_of_mem this
  exact hf k hk
theorem letter_ok {k : Nat} (h : k < 1000) : msgOk (letterM (k : Int)) = true := by
  unfold msgOk letterM par
  simp only [List.length_nil, Bool.and_eq_true, decide_eq_true_eq]
  omega
theorem FS.step {ft : List (Int × Int)} {k : Nat} {js : List Nat} (h : FS ft k js) (hk : k < ft.length) (hl : ft.length ≤ 60) (hf : FatsOk ft) :
    ∃ c d p js', fate0 (FLn ft 0 js (ft.drop k)) = (((c : Nat) : Int), d) ∧ PlaceIs (FLn ft 0 js (ft.drop k)).ats ((FLn ft 0 js (ft.drop k)).nw + d) p ∧ ¬ 1000 < (FLn ft 0 js (ft.drop k)).L.length + c ∧ sendL (FLn ft 0 js (ft.drop k)) (letterM (k : Int)) p c d = FLn ft 0 js' (ft.drop (k + 1)) ∧ FS ft (k + 1) js' := by
  obtain ⟨h1, h2, h3, h4⟩ := h
  obtain ⟨⟨b1, b2⟩, b3, b4⟩ := fat_bd hf hk
  have e0 : fate0 (FLn ft 0 js (ft.drop k)) = (((cp ft k).toNat : Int), dl ft k) := by
    unfold fate0 FLn
    simp only
    rw [List.drop_eq_getElem_cons hk, List.headD_cons, Int.toNat_of_nonneg b1, cp_eq hk, dl_eq hk]
  obtain ⟨p, hp⟩ := place_ex h1.2.1 ((FLn ft 0 js (ft.drop k)).nw + dl ft k)
  have hL : (FLn ft 0 js (ft.drop k)).L.length = js.length := by simp [FLn]
  have hn : (FLn ft 0 js (ft.drop k)).L.length + (cp ft k).toNat ≤ 1000 := by rw [hL]; omega
  have es : sendL (FLn ft 0 js (ft.drop k)) (letterM (k : Int)) p (cp ft k).toNat (dl ft k) = FLn ft 0 (rep js p (cp ft k).toNat k) (ft.drop (k + 1)) := by
    unfold sendL FLn
    simp only [Int.zero_add]
    rw [← rep_map (fun (j : Nat) => letterM (j : Int)), ← rep_map (dl ft), List.drop_drop]
  have ok := sendL_ok h1 (letter_ok (k := k) (by omega)) e0 hp hn
  rw [es] at ok
  refine ⟨(cp ft k).toNat, dl ft k, p, _, e0, hp, Nat.not_lt.2 hn, es, ok, fun j hj => ?_, fun j hj => ?_, ?_⟩
  · rcases mem_rep hj with hj | rfl
    · have := h2 j hj; omega
    · omega
  · rw [count_rep]
    by_cases e : k = j
    · subst e
      have : js.count k = 0 := List.count_eq_zero.2 (fun hm => by have := h2 k hm; omega)
      rw [if_pos rfl, this]; omega
    · rw [if_neg e]; exact h3 j (by omega)
  · have hpl : p ≤ js.length := by have := hp.1; simpa [FLn] using this
    rw [rep_len hpl]; omega
/-- the loop: r rounds are done -/
def FI (ft : List (Int × Int)) (r : Nat) (now : Int) (js : List Nat) (fts : List (Int × Int)) (got : List Int) : Prop :=
  LinOk (FLn ft now js fts) ∧ (∀ j ∈ js, j < ft.length) ∧ got.length = ft.length ∧ (∀ j (h : j < got.length), 0 ≤ got[j] ∧ (js.count j : Int) + got[j] = cp ft j) ∧ r + js.length + js.countP (fun j => decide (now < dl ft j)) ≤ 360
theorem FS.toFI {ft : List (Int × Int)} {js : List Nat} (h : FS ft ft.length js) (hl : ft.length ≤ 60) : FI ft 0 0 js (ft.drop ft.length) (List.replicate ft.length 0) := by
  obtain ⟨h1, h2, h3, h4⟩ := h
  refine ⟨h1, h2, List.length_replicate, fun j hj => ?_, ?_⟩
  · rw [List.length_replicate] at hj
    rw [List.getElem_replicate]
    have := h3 j hj
    omega
  · have := List.countP_le_length (p := fun j => decide ((0 : Int) < dl ft j)) (l := js); omega
theorem FLn_arr {ft fts : List (Int × Int)} {now : Int} {js : List Nat} {g : Nat} (hg : g < js.length) : arrB (FLn ft now js fts) 1 g = decide (dl ft js[g] ≤ now) := by
  rw [arrB_eq (by simpa [FLn] using hg) (by simpa [FLn] using hg)]
  simp only [FLn, List.getElem_map, letterM]
  simp
theorem FI.recv {ft fts : List (Int × Int)} {r f : Nat} {now : Int} {js : List Nat} {got : List Int} (h : FI ft r now js fts got) (hF : FatsOk ft) (hf : f < js.length) (ha : arrB (FLn ft now js fts) 1 f = true) :
    ∃ j, ∃ hj : j < got.length, j < ft.length ∧ js[f] = j ∧ dl ft j ≤ now ∧ got[j] ≤ 3 ∧ 0 ≤ got[j] ∧ (FLn ft now js fts).L[f]? = some (letterM (j : Int)) ∧ recvL (FLn ft now js fts) f = FLn ft now (js.eraseIdx f) fts ∧ FI ft (r + 1) now (js.eraseIdx f) fts (got.set j (got[j] + 1)) := by
  obtain ⟨h1, h2, h3, h4, h5⟩ := h
  have hj : js[f] < ft.length := h2 _ (List.getElem_mem hf)
  have er : recvL (FLn ft now js fts) f = FLn ft now (js.eraseIdx f) fts := by unfold recvL FLn; simp only [eraseIdx_map2]
  have ok := recvL_ok h1 (f := f) (by simpa [FLn] using hf)
  rw [er] at ok
  rw [FLn_arr hf] at ha
  have b4 := h4 js[f] (by omega)
  have hcnt := count_er js f hf
  have hc3 := (fat_bd hF hj).1.2
  refine ⟨js[f], by omega, hj, rfl, of_decide_eq_true ha, by omega, b4.1, by simp [FLn, hf], er, ok, fun j hj => h2 j (List.mem_of_mem_eraseIdx hj), by simpa using h3, fun j hj => ?_, ?_⟩
  · rw [List.length_set] at hj
    have a := h4 j hj
    have b := hcnt j
    rw [List.getElem_set]
    by_cases e : js[f] = j
    · rw [if_pos e] at b ⊢
      subst e; omega
    · rw [if_neg e] at b ⊢
      omega
  · have c1 : (js.eraseIdx f).length = js.length - 1 := List.length_eraseIdx_of_lt hf
    have c2 := (List.eraseIdx_sublist js f).countP_le (p := fun j => decide (now < dl ft j))
    omega
theorem FI.done {ft fts : List (Int × Int)} {r : Nat} {now : Int} {got : List Int} (h : FI ft r now [] fts got) {j : Nat} (hj : j < got.length) (hj' : j < ft.length) : got[j] = ft[j].1 := by
  have := (h.2.2.2.1 j hj).2
  rw [cp_eq hj'] at this
  simpa using this
theorem FI.next {ft fts : List (Int × Int)} {r : Nat} {now : Int} {j0 : Nat} {js : List Nat} {got : List Int} (h : FI ft r now (j0 :: js) fts got) (hf : FatsOk ft) (ha : ∀ g, arrB (FLn ft now (j0 :: js) fts) 1 g = false) :
    NextIs (FLn ft now (j0 :: js) fts) (dl ft j0) true ∧ wth (dl ft j0) 1099511627776 = true ∧ ¬ dl ft j0 < now ∧ FI ft (r + 1) (dl ft j0) (j0 :: js) fts got := by
  obtain ⟨h1, h2, h3, h4, h5⟩ := h
  have a0 := ha 0
  rw [FLn_arr (by simp)] at a0
  have hn : now < dl ft j0 := by have := of_decide_eq_false a0; simp at this; omega
  have hb := fat_bd hf (h2 j0 (by simp))
  have hw : wth (dl ft j0) 1099511627776 = true := by unfold wth; simp only [Bool.and_eq_true, decide_eq_true_eq]; omega
  refine ⟨.inl ⟨0, by simp [FLn], by simp [FLn], rfl, hn, fun j _ hj => absurd hj (Nat.not_lt_zero _)⟩, hw, by omega, goL_ok h1 hw, h2, h3, h4, ?_⟩
  have c : js.countP (fun j => decide (dl ft j0 < dl ft j)) ≤ js.countP (fun j => decide (now < dl ft j)) :=
    List.countP_mono_left fun j _ hj => by simp only [decide_eq_true_eq] at hj ⊢; omega
  rw [List.countP_cons_of_pos (by simpa using hn)] at h5
  rw [List.countP_cons_of_neg (by simp)]
  omega
theorem FI.no {ft fts : List (Int × Int)} {r : Nat} {now : Int} {got : List Int} (h : FI ft r now [] fts got) : NextIs (FLn ft now [] fts) 0 false := .inr ⟨rfl, rfl, fun j hj => by simp [FLn] at hj⟩
theorem FI.r {ft fts : List (Int × Int)} {r : Nat} {now : Int} {js : List Nat} {got : List Int} (h : FI ft r now js fts got) : r ≤ 360 := by have := h.2.2.2.2; omega
end Go.Proofs.Ytbcfcdcomboljaa

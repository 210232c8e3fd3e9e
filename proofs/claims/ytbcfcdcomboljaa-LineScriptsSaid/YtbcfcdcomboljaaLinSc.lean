/- LineScripts: what the law keeps, as lists of the numbers of the messages that are on their way. Plain. -/
import Derived.Test.YtbcfcdcomboljaaLinFt
namespace Go.Proofs.Ytbcfcdcomboljaa
open Go.RowKit
set_option linter.unusedVariables false
set_option linter.unusedSimpArgs false
/-- of each message that was sent: the party, the time of arrival, its byte -/
abbrev Snt := List (Int × Int × Nat)
def toS (P : Snt) (j : Nat) : Int := (P.getD j (0, 0, 0)).1
def atS (P : Snt) (j : Nat) : Int := (P.getD j (0, 0, 0)).2.1
def byS (P : Snt) (j : Nat) : Nat := (P.getD j (0, 0, 0)).2.2
def msgS (to_ : Int) (n : Nat) (b : Nat) : Msg := ⟨0, to_, 0, (n : Int), [b]⟩
def SLn (P : Snt) (now : Int) (js : List Nat) (fts : List (Int × Int)) : Lin := ⟨now, js.map (fun j => msgS (toS P j) j (byS P j)), js.map (atS P), fts⟩
/-- not behind, in the order of arrival, then of sending -/
def leS (P : Snt) (i j : Nat) : Prop := atS P i < atS P j ∨ (atS P i = atS P j ∧ i ≤ j)
/-- what was received last, by party -/
abbrev Lst := Int → Option (Int × Int)
def putL (ls : Lst) (t : Int) (x : Int × Int) : Lst := fun k => if k = t then some x else ls k
def ScI (ft : List (Int × Int)) (i : Nat) (now : Int) (P : Snt) (lf : List Int) (js : List Nat) (ls : Lst) : Prop :=
  LinOk (SLn P now js (ft.drop P.length)) ∧ lf.length = P.length ∧ P.length ≤ i ∧ js.length ≤ 3 * P.length ∧ (0 ≤ now ∧ now ≤ 255 * i) ∧ (∀ j ∈ js, j < P.length) ∧
  (∀ j (h : j < lf.length), (js.count j : Int) = lf[j]) ∧ js.Pairwise (leS P) ∧ ∀ t a n, ls t = some (a, n) → a ≤ now ∧ n < P.length ∧ ∀ j ∈ js, toS P j = t → a < atS P j ∨ (a = atS P j ∧ n ≤ j)
theorem getD_app {P : Snt} {x : Int × Int × Nat} {j : Nat} (h : j < P.length) : (P ++ [x]).getD j (0, 0, 0) = P.getD j (0, 0, 0) := by
  rw [List.getD_eq_getElem?_getD, List.getD_eq_getElem?_getD, List.getElem?_append_left h]
theorem getD_last (P : Snt) (x : Int × Int × Nat) : (P ++ [x]).getD P.length (0, 0, 0) = x := by
  rw [List.getD_eq_getElem?_getD, List.getElem?_append_right (Nat.le_refl _)]; simp
theorem ScI.zero {ft : List (Int × Int)} (hl : ft.length ≤ 100) (hf : FatsOk ft) : ScI ft 0 0 [] [] [] (fun _ => none) := by
  refine ⟨.of (by show wth 0 1099511627776 = true; decide) rfl (Nat.zero_le _) (by show (ft.drop 0).length ≤ 1000; simp; omega) (by intro m hm; simp [SLn] at hm) (by intro m hm; simp [SLn] at hm) (by simp [SLn]) (fun p hp => ?_), rfl, Nat.le_refl _, Nat.le_refl _, ⟨Int.le_refl _, by omega⟩, by simp, fun j hj => absurd hj (Nat.not_lt_zero _), List.Pairwise.nil, fun t a n h => by cases h⟩
  have : p ∈ ft := hp
  obtain ⟨k, hk, rfl⟩ := List.getElem_of_mem this
  exact hf k hk
theorem ScI.mono {ft : List (Int × Int)} {i : Nat} {now : Int} {P : Snt} {lf : List Int} {js : List Nat} {ls : Lst} (h : ScI ft i now P lf js ls) : ScI ft (i + 1) now P lf js ls := by
  obtain ⟨h1, h2, h3, h4, h5, h6⟩ := h
  exact ⟨h1, h2, by omega, h4, ⟨h5.1, by omega⟩, h6⟩
theorem SLn_app {P : Snt} {x : Int × Int × Nat} {now : Int} {js : List Nat} {fts : List (Int × Int)} (h : ∀ j ∈ js, j < P.length) : SLn (P ++ [x]) now js fts = SLn P now js fts := by
  unfold SLn
  congr 1
  · refine List.map_congr_left fun j hj => ?_
    unfold toS byS; rw [getD_app (h j hj)]
  · refine List.map_congr_left fun j hj => ?_
    unfold atS; rw [getD_app (h j hj)]
theorem pairwise_map {α : Type} {R S : α → α → Prop} : ∀ {l : List α}, (∀ a ∈ l, ∀ b ∈ l, R a b → S a b) → l.Pairwise R → l.Pairwise S
  | [], _, _ => List.Pairwise.nil
  | a :: l, h, hp => by
    rw [List.pairwise_cons] at hp ⊢
    exact ⟨fun b hb => h a (by simp) b (by simp [hb]) (hp.1 b hb), pairwise_map (fun x hx y hy => h x (by simp [hx]) y (by simp [hy])) hp.2⟩
theorem leS_app {P : Snt} {x : Int × Int × Nat} {i j : Nat} (hi : i < P.length) (hj : j < P.length) : leS (P ++ [x]) i j ↔ leS P i j := by
  unfold leS atS; rw [getD_app hi, getD_app hj]
/-- a message is sent: its fate is c copies, at d from now -/
theorem ScI.send {ft : List (Int × Int)} {i : Nat} {now : Int} {P : Snt} {lf : List Int} {js : List Nat} {ls : Lst} (h : ScI ft i now P lf js ls) (hi : i < 100) (hl : ft.length ≤ 100) (hf : FatsOk ft) (to_ : Nat) (ht : to_ < 3) (b : Nat) :
    ∃ c d p js', fate0 (SLn P now js (ft.drop P.length)) = (((c : Nat) : Int), d) ∧ (0 ≤ d ∧ d ≤ 1000000) ∧ c ≤ 3 ∧ PlaceIs (SLn P now js (ft.drop P.length)).ats ((SLn P now js (ft.drop P.length)).nw + d) p ∧ ¬ 1000 < (SLn P now js (ft.drop P.length)).L.length + c ∧
      msgOk (msgS (to_ : Int) P.length b) = true ∧
      sendL (SLn P now js (ft.drop P.length)) (msgS (to_ : Int) P.length b) p c d = SLn (P ++ [((to_ : Int), now + d, b)]) now js' (ft.drop (P ++ [((to_ : Int), now + d, b)]).length) ∧ ScI ft (i + 1) now (P ++ [((to_ : Int), now + d, b)]) (lf ++ [(c : Int)]) js' ls := by
  obtain ⟨h1, h2, h3, h4, h5, h6, h7, h8, h9⟩ := h
  obtain ⟨_, ⟨b1, b2⟩, b3, b4⟩ := snd_bounds h1
  obtain ⟨c, hc⟩ : ∃ c : Nat, ((c : Nat) : Int) = (fate0 (SLn P now js (ft.drop P.length))).1 := ⟨(fate0 (SLn P now js (ft.drop P.length))).1.toNat, Int.toNat_of_nonneg b1⟩
  obtain ⟨d, hd⟩ : ∃ d, d = (fate0 (SLn P now js (ft.drop P.length))).2 := ⟨_, rfl⟩
  rw [← hc] at b1 b2
  rw [← hd] at b3 b4
  have e0 : fate0 (SLn P now js (ft.drop P.length)) = ((c : Int), d) := by rw [hc, hd]
  obtain ⟨p, hp⟩ := place_ex h1.2.1 ((SLn P now js (ft.drop P.length)).nw + d)
  have hL : (SLn P now js (ft.drop P.length)).L.length = js.length := by simp [SLn]
  have hn : (SLn P now js (ft.drop P.length)).L.length + c ≤ 1000 := by rw [hL]; omega
  have hm : msgOk (msgS (to_ : Int) P.length b) = true := by
    unfold msgOk msgS par
    simp only [List.length_cons, List.length_nil, Bool.and_eq_true, decide_eq_true_eq]
    omega
  have hpl : p ≤ js.length := by have := hp.1; simpa [SLn] using this
  obtain ⟨x, hx⟩ : ∃ x, x = ((to_ : Int), now + d, b) := ⟨_, rfl⟩
  have a1 : toS (P ++ [x]) P.length = (to_ : Int) := by unfold toS; rw [getD_last, hx]
  have a2 : atS (P ++ [x]) P.length = now + d := by unfold atS; rw [getD_last, hx]
  have a3 : byS (P ++ [x]) P.length = b := by unfold byS; rw [getD_last, hx]
  have es : sendL (SLn P now js (ft.drop P.length)) (msgS (to_ : Int) P.length b) p c d = SLn (P ++ [x]) now (rep js p c P.length) (ft.drop (P ++ [x]).length) := by
    rw [← SLn_app (x := x) h6]
    unfold sendL SLn
    simp only
    have r1 := rep_map (fun j => msgS (toS (P ++ [x]) j) j (byS (P ++ [x]) j)) js p c P.length
    have r2 := rep_map (atS (P ++ [x])) js p c P.length
    simp only [a1, a3] at r1
    rw [a2] at r2
    rw [← r1, ← r2, List.drop_drop, List.length_append, List.length_singleton]
  have ok := sendL_ok h1 hm e0 hp hn
  rw [es] at ok
  have hmem : ∀ j ∈ rep js p c P.length, j ∈ js ∨ j = P.length := fun j hj => mem_rep hj
  refine ⟨c, d, p, rep js p c P.length, e0, ⟨b3, b4⟩, by omega, hp, Nat.not_lt.2 hn, hm, by rw [← hx]; exact es, ?_⟩
  rw [← hx]
  refine ⟨ok, by simp [h2], by simp; omega, by rw [rep_len hpl]; simp; omega, ⟨h5.1, by omega⟩, fun j hj => ?_, fun j hj => ?_, ?_, fun t a n hs => ?_⟩
  · rw [List.length_append, List.length_singleton]
    rcases hmem j hj with hj | rfl
    · have := h6 j hj; omega
    · omega
  · rw [count_rep]
    rw [List.length_append, List.length_singleton] at hj
    by_cases e : j < lf.length
    · rw [List.getElem_append_left e, if_neg (by omega)]
      exact_mod_cast h7 j e
    · have ej : j = lf.length := by omega
      subst ej
      rw [List.getElem_append_right (Nat.le_refl _)]
      have : js.count lf.length = 0 := List.count_eq_zero.2 (fun hm => by have := h6 _ hm; omega)
      rw [this, if_pos h2.symm]
      simp
  · obtain ⟨p1, p2, p3⟩ := hp
    have q2 : ∀ j ∈ js.take p, atS P j ≤ now + d := by
      intro j hj
      obtain ⟨k, hk, rfl⟩ := List.getElem_of_mem hj
      rw [List.length_take] at hk
      have := p2 k (by simp [SLn]; omega) (by omega)
      simpa [SLn, List.getElem_take] using this
    have q3 : ∀ j ∈ js.drop p, now + d < atS P j := by
      intro j hj
      obtain ⟨k, hk, rfl⟩ := List.getElem_of_mem hj
      rw [List.length_drop] at hk
      have := p3 (p + k) (by simp [SLn]; omega) (by omega)
      simpa [SLn, List.getElem_drop] using this
    have hold : js.Pairwise (leS (P ++ [x])) := pairwise_map (fun a ha b hb hab => (leS_app (h6 a ha) (h6 b hb)).2 hab) h8
    unfold rep
    rw [List.pairwise_append, List.pairwise_append]
    have lo : ∀ a ∈ js.take p, leS (P ++ [x]) a P.length := fun a ha => by
      have hl := h6 a (List.mem_of_mem_take ha)
      have := q2 a ha
      have e : atS (P ++ [x]) a = atS P a := by unfold atS; rw [getD_app hl]
      unfold leS
      rw [a2, e]
      omega
    have hi' : ∀ a ∈ js.drop p, leS (P ++ [x]) P.length a := fun a ha => by
      have hl := h6 a (List.mem_of_mem_drop ha)
      have := q3 a ha
      have e : atS (P ++ [x]) a = atS P a := by unfold atS; rw [getD_app hl]
      unfold leS
      rw [a2, e]
      omega
    refine ⟨hold.sublist (List.take_sublist _ _), ⟨?_, hold.sublist (List.drop_sublist _ _), fun a ha b hb => ?_⟩, fun a ha b hb => ?_⟩
    · rw [List.pairwise_iff_forall_sublist]
      intro a b hab
      have g1 : a ∈ List.replicate c P.length := hab.subset (by simp)
      have g2 : b ∈ List.replicate c P.length := hab.subset (by simp)
      rw [List.eq_of_mem_replicate g1, List.eq_of_mem_replicate g2]
      exact .inr ⟨rfl, Nat.le_refl _⟩
    · rw [List.eq_of_mem_replicate ha]; exact hi' b hb
    · rcases List.mem_append.1 hb with hb | hb
      · rw [List.eq_of_mem_replicate hb]; exact lo a ha
      · exact List.pairwise_append.1 (by rw [List.take_append_drop]; exact hold) |>.2.2 a ha b hb
  · obtain ⟨k1, k2, k3⟩ := h9 t a n hs
    refine ⟨k1, by rw [List.length_append, List.length_singleton]; omega, fun j hj hjt => ?_⟩
    rcases hmem j hj with hj | rfl
    · have hl := h6 j hj
      have e1 : atS (P ++ [x]) j = atS P j := by unfold atS; rw [getD_app hl]
      have e2 : toS (P ++ [x]) j = toS P j := by unfold toS; rw [getD_app hl]
      rw [e1]; rw [e2] at hjt
      exact k3 j hj hjt
    · rw [a2]; omega
theorem SLn_arr {P : Snt} {now : Int} {js : List Nat} {fts : List (Int × Int)} {pt : Int} {g : Nat} (hg : g < js.length) : arrB (SLn P now js fts) pt g = (decide (atS P js[g] ≤ now) && decide (toS P js[g] = pt)) := by
  rw [arrB_eq (by simpa [SLn] using hg) (by simpa [SLn] using hg)]
  simp only [SLn, List.getElem_map, msgS]
/-- a message is received -/
theorem ScI.recv {ft : List (Int × Int)} {i : Nat} {now : Int} {P : Snt} {lf : List Int} {js : List Nat} {ls : Lst} (h : ScI ft i now P lf js ls) {pt : Int} {f : Nat} (hF : FirstIs (SLn P now js (ft.drop P.length)) pt (f : Int)) (hA : arrB (SLn P now js (ft.drop P.length)) pt f = true) :
    ∃ j, ∃ hj : j < lf.length, j < P.length ∧ f < js.length ∧ (SLn P now js (ft.drop P.length)).L[f]? = some (msgS (toS P j) j (byS P j)) ∧ toS P j = pt ∧ atS P j ≤ now ∧ 1 ≤ lf[j] ∧ lf[j] ≤ 3 * (P.length : Int) ∧
      (∀ a n, ls pt = some (a, n) → ¬ atS P j < a ∧ ¬ (a = atS P j ∧ (j : Int) < n)) ∧
      recvL (SLn P now js (ft.drop P.length)) f = SLn P now (js.eraseIdx f) (ft.drop P.length) ∧ ScI ft (i + 1) now P (lf.set j (lf[j] - 1)) (js.eraseIdx f) (putL ls pt (atS P j, (j : Int))) := by
  obtain ⟨h1, h2, h3, h4, h5, h6, h7, h8, h9⟩ := h
  have hf : f < js.length := by have := (arrB_lt hA).1; simpa [SLn] using this
  have hjP : js[f] < P.length := h6 _ (List.getElem_mem hf)
  have hA2 := hA
  rw [SLn_arr hf] at hA2
  simp only [Bool.and_eq_true, decide_eq_true_eq] at hA2
  have er : recvL (SLn P now js (ft.drop P.length)) f = SLn P now (js.eraseIdx f) (ft.drop P.length) := by unfold recvL SLn; simp only [eraseIdx_map2]
  have ok := recvL_ok h1 (f := f) (by simpa [SLn] using hf)
  rw [er] at ok
  have hcnt := count_er js f hf
  have hb : ∀ g, g < f → arrB (SLn P now js (ft.drop P.length)) pt g = false := by
    rcases hF with ⟨k, e, _, hk⟩ | ⟨e, _⟩
    · have : k = f := by omega
      subst this; exact hk
    · omega
  have hj7 := h7 js[f] (by omega)
  have hcf := hcnt js[f]
  rw [if_pos rfl] at hcf
  have hlen := List.count_le_length (a := js[f]) (l := js)
  refine ⟨js[f], by omega, hjP, hf, by simp [SLn, hf], hA2.2, hA2.1, by omega, by omega, fun a n hs => ?_, er, ok, by simp [h2], by omega, ?_, ⟨h5.1, by omega⟩, fun j hj => h6 j (List.mem_of_mem_eraseIdx hj), fun j hj => ?_, h8.sublist (List.eraseIdx_sublist _ _), fun t a n hs => ?_⟩
  · have := (h9 pt a n hs).2.2 js[f] (List.getElem_mem hf) hA2.2
    omega
  · have c1 : (js.eraseIdx f).length = js.length - 1 := List.length_eraseIdx_of_lt hf
    omega
  · rw [List.length_set] at hj
    have a := h7 j hj
    have b := hcnt j
    rw [List.getElem_set]
    by_cases e : js[f] = j
    · rw [if_pos e] at b ⊢
      subst e; omega
    · rw [if_neg e] at b ⊢
      omega
  · unfold putL at hs
    by_cases e : t = pt
    · rw [if_pos e] at hs
      simp only [Option.some.injEq, Prod.mk.injEq] at hs
      obtain ⟨rfl, rfl⟩ := hs
      refine ⟨hA2.1, by omega, fun j hj hjt => ?_⟩
      obtain ⟨g, hg, rfl⟩ := List.getElem_of_mem hj
      have c1 : (js.eraseIdx f).length = js.length - 1 := List.length_eraseIdx_of_lt hf
      rw [List.getElem_eraseIdx] at hjt ⊢
      split at hjt
      · next hgf =>
        rw [dif_pos hgf]
        have hno := hb g hgf
        rw [SLn_arr (by omega)] at hno
        rw [hjt, e] at hno
        simp at hno
        omega
      · next hgf =>
        rw [dif_neg hgf]
        have := List.pairwise_iff_getElem.1 h8 f (g + 1) hf (by omega) (by omega)
        unfold leS at this
        omega
    · rw [if_neg e] at hs
      obtain ⟨k1, k2, k3⟩ := h9 t a n hs
      exact ⟨k1, k2, fun j hj => k3 j (List.mem_of_mem_eraseIdx hj)⟩
/-- time goes on -/
theorem ScI.go {ft : List (Int × Int)} {i : Nat} {now : Int} {P : Snt} {lf : List Int} {js : List Nat} {ls : Lst} (h : ScI ft i now P lf js ls) (hi : i < 100) {b : Nat} (hb : b ≤ 255) :
    wth (now + (b : Int)) 1099511627776 = true ∧ ¬ now + (b : Int) < now ∧ goL (SLn P now js (ft.drop P.length)) (now + (b : Int)) = SLn P (now + (b : Int)) js (ft.drop P.length) ∧ ScI ft (i + 1) (now + (b : Int)) P lf js ls := by
  obtain ⟨h1, h2, h3, h4, h5, h6, h7, h8, h9⟩ := h
  have hw : wth (now + (b : Int)) 1099511627776 = true := by unfold wth; simp only [Bool.and_eq_true, decide_eq_true_eq]; omega
  refine ⟨hw, by omega, rfl, goL_ok h1 hw, h2, by omega, h4, ⟨by omega, by omega⟩, h6, h7, h8, fun t a n hs => ?_⟩
  obtain ⟨k1, k2, k3⟩ := h9 t a n hs
  exact ⟨by omega, k2, k3⟩
end Go.Proofs.Ytbcfcdcomboljaa

/- Picked declarations. -/
import Derived.Test.YtinlfogpbologaaDoorPriE
import Derived.Test.YtinlfogpbologaaDoorPLst
import Derived.Test.YtinlfogpbologaaDoorPriF
import Derived.Deep.DeepCutAuto
import Derived.Deep.CutBlock
namespace Go.Proofs.YtinlfogpbologaaDoor
open Go.RowKit DivMath WordMath
set_option linter.unusedVariables false
set_option linter.unusedSimpArgs false
/-- residues, as ints -/
def nl (l : List Nat) : List Int := l.map (fun n : Nat => (n : Int))
theorem nl_len (l : List Nat) : (nl l).length = l.length := by simp [nl]
/-- a row of residues: its cells -/
def ncl (l : List Nat) : List Value := icl (nl l)
theorem ncl_len (l : List Nat) : (ncl l).length = l.length * 1 := by rw [ncl, icl_len, nl_len]
theorem ncl_get (l : List Nat) (i : Nat) (h : i < l.length) : (ncl l)[i]? = some (.int .i64 (l[i] : Nat)) := by
  rw [ncl, icl_get _ i (by rw [nl_len]; exact h)]; simp [nl]
theorem ncl_set (l : List Nat) (k v : Nat) : (ncl l).set k (.int .i64 (v : Nat)) = ncl (l.set k v) := by simp [ncl, nl, icl, List.map_set]
theorem ncl_rep (n : Nat) : icl (List.replicate n 0) = ncl (List.replicate n 0) := by simp [ncl, nl]
theorem ncl_one (l : List Nat) : ∀ u ∈ ncl l, u.oneCell' = true := icl_one _
/-- the cell of a residue of a row -/
theorem Env.elN {D0 : Nat → Prop} {w W : World} {F : List Bx} {G : List Fct} (h : Env D0 w F G W) (i : Nat) {b off n j : Nat} {l : List Nat} (e : G[i]? = some (.rw (.slice (some ⟨b, off, none⟩) n j) n 1 (ncl l))) (hn : n = l.length) (k : Nat) (hk : k < l.length) :
    Env D0 w F (.ce b (off + k) (.int .i64 (l[k] : Nat)) :: G) W := by
  have hm : Rw W (DF D0 w.heap.size F) (.slice (some ⟨b, off, none⟩) n j) n 1 (ncl l) := h.fct.get i e
  exact h.note _ (hm.el (by omega) (ncl_get l k hk))
/-- a row of residues came back -/
def RetI (D : Nat → Prop) (l : List Nat) (e : Ending) (W : World) : Prop := ∃ ao k, e = .returned (.slice ao l.length k) ∧ Hid (Rw W D (.slice ao l.length k) l.length 1 (ncl l))
/-- and an error number -/
def RetIE (D : Nat → Prop) (l : List Nat) (c : Int) (e : Ending) (W : World) : Prop := ∃ ao k, e = .returned (.tuple #[.slice ao l.length k, .int .i64 c]) ∧ Hid (Rw W D (.slice ao l.length k) l.length 1 (ncl l))
theorem Fct.any {W : World} {D : Nat → Prop} {f : Fct} (h : Fct.at W D f) : Fct.at W (fun _ => True) f := Fct.turn h (Nat.le_refl _) (fun _ _ _ => trivial) (fun _ _ _ _ => rfl)
theorem RetEq {a b : Int} (h : a = b) : Ending.returned (.int .i64 a) = Ending.returned (.int .i64 b) := by rw [h]
theorem first_any {α : Type} (l : List α) (p : α → Bool) : ∃ r : Int, ((r = -1 ∧ ∀ k (h : k < l.length), p l[k] = false) ∨ ∃ k : Nat, r = (k : Int) ∧ ∃ h : k < l.length, p l[k] = true ∧ ∀ j (h : j < l.length), j < k → p l[j] = false) := by
  induction l with
  | nil => exact ⟨-1, .inl ⟨rfl, fun k h => absurd h (Nat.not_lt_zero _)⟩⟩
  | cons a l ih =>
    by_cases ha : p a = true
    · exact ⟨0, .inr ⟨0, rfl, Nat.zero_lt_succ _, ha, fun j _ h => absurd h (Nat.not_lt_zero _)⟩⟩
    · have ha' : p a = false := by simpa using ha
      obtain ⟨r, h | ⟨k, rfl, hk, h1, h2⟩⟩ := ih
      · refine ⟨-1, .inl ⟨rfl, fun k hk => ?_⟩⟩
        rcases k with _ | k
        · exact ha'
        · exact h.2 k (by simpa using hk)
      · refine ⟨((k + 1 : Nat) : Int), .inr ⟨k + 1, rfl, by simpa using hk, h1, fun j hj hjk => ?_⟩⟩
        rcases j with _ | j
        · exact ha'
        · exact h2 j (by simpa using hj) (by omega)
theorem first_dec {α : Type} {l : List α} {p : α → Bool} {r : Int} (h : (r = -1 ∧ ∀ k (h : k < l.length), p l[k] = false) ∨ ∃ k : Nat, r = (k : Int) ∧ ∃ h : k < l.length, p l[k] = true ∧ ∀ j (h : j < l.length), j < k → p l[j] = false) : decide (0 ≤ r) = l.any p := by
  rcases h with ⟨rfl, h⟩ | ⟨k, rfl, hk, h1, _⟩
  · symm
    show l.any p = false
    rw [List.any_eq_false]
    intro x hx
    obtain ⟨k, hk, rfl⟩ := List.getElem_of_mem hx
    rw [h k hk]; simp
  · have : l.any p = true := List.any_eq_true.2 ⟨l[k], List.getElem_mem hk, h1⟩
    rw [this]; exact decide_eq_true (by omega)
theorem Rw.cap {W : World} {D : Nat → Prop} {a : Option Addr} {n k c : Nat} {cs : List Value} (h : Rw W D (.slice a n c) n k cs) : n ≤ c ∧ (c : Int) ≤ 9223372036854775807 := by
  obtain ⟨ao, cap, h1, h2, h3, _⟩ := h
  simp only [Value.slice.injEq, true_and] at h1
  obtain ⟨_, rfl⟩ := h1
  exact ⟨h2, by omega⟩
theorem RetI.mono {D D' : Nat → Prop} {l : List Nat} {e : Ending} {W : World} (h : RetI D l e W) (hD : ∀ b, D b → D' b) : RetI D' l e W := by
  obtain ⟨ao, k, h1, h2⟩ := h
  exact ⟨ao, k, h1, Lib.hid (h2.out.turn (Nat.le_refl _) (fun b _ hb => hD b hb) (fun _ _ _ _ => rfl))⟩
theorem cloneN_c {D : Nat → Prop} {v : Value} {l : List Nat} {w : World} (h : Fct.at w D (.rw v l.length 1 (ncl l))) (hl : l.length ≤ 1000000) :
    Calls Tryd.prog 82 #[v] w fun e w' => RetI (fun b => w.heap.size ≤ b) l e w' ∧ Below w.heap.size w w' :=
  (cloneRInt h hl).mono fun e w' ⟨⟨v', h1, h2⟩, hb⟩ => by
    have h3 := Rw.ofOwns h2 (ncl_one l)
    obtain ⟨ao, k, rfl⟩ := h3.len
    exact ⟨⟨ao, k, h1, Lib.hid h3⟩, hb⟩
theorem Rw.ge {W : World} {D : Nat → Prop} {B n k : Nat} {v : Value} {cs : List Value} (h : Rw W (fun b => B ≤ b) v n k cs) : Rw W (fun b => D b ∨ B ≤ b) v n k cs := h.turn (Nat.le_refl _) (fun _ _ h => .inr h) (fun _ _ _ _ => rfl)
theorem Rw.from {W : World} {B B' n k : Nat} {v : Value} {cs : List Value} (h : Rw W (fun b => B' ≤ b) v n k cs) (hB : B ≤ B') : Rw W (fun b => B ≤ b) v n k cs := h.turn (Nat.le_refl _) (fun _ _ h => Nat.le_trans hB h) (fun _ _ _ _ => rfl)
theorem Rw.toNl {W : World} {D : Nat → Prop} {v : Value} {l : List Nat} (h : Rw W D v l.length 1 (ncl l)) : Rw W D v (nl l).length 1 (icl (nl l)) := by rw [nl_len]; exact h
theorem Rw.ofNl {W : World} {D : Nat → Prop} {v : Value} {l : List Nat} (h : Rw W D v (nl l).length 1 (icl (nl l))) : Rw W D v l.length 1 (ncl l) := by rw [nl_len] at h; exact h
theorem Rw.tr {W : World} {D : Nat → Prop} {v : Value} {n k : Nat} {cs : List Value} (h : Rw W D v n k cs) : Rw W (fun _ => True) v n k cs := h.turn (Nat.le_refl _) (fun _ _ _ => trivial) (fun _ _ _ _ => rfl)
theorem ncl_app_get (o : List Nat) (rs : List Value) (i : Nat) (h : i < o.length) : (ncl o ++ rs)[i]? = some (.int .i64 (o[i] : Nat)) := by
  rw [List.getElem?_append_left (by rw [ncl_len]; omega)]; exact ncl_get o i h
theorem ncl_app_set (o : List Nat) (rs : List Value) (i v : Nat) (h : i < o.length) : (ncl o ++ rs).set i (.int .i64 (v : Nat)) = ncl (o.set i v) ++ rs := by
  rw [List.set_append_left _ _ (by rw [ncl_len]; omega), ncl_set]
/-- a box, for a callee that only reads -/
theorem Rw.boxN {W : World} {B g : Nat} {T : TypeId} {o : List Nat} {rs : List Value} {cap : Nat} (hB : Box B g T (ncl o ++ rs) W) (h1 : o.length ≤ cap) (h2 : cap ≤ 9223372036854775807) : Rw W (fun _ => True) (.slice (some ⟨g, 0, none⟩) o.length cap) o.length 1 (ncl o) :=
  ⟨some ⟨g, 0, none⟩, cap, rfl, h1, h2, ncl_len o, ncl_one o, fun _ => ⟨g, 0, rfl, ⟨hB.lt, trivial⟩, fun i u hu => by
    rw [Nat.zero_add]
    refine hB.cell i ?_
    have hi : i < (ncl o).length := (List.getElem?_eq_some_iff.1 hu).1
    rw [List.getElem?_append_left hi]; exact hu⟩⟩
theorem cloneBox_c {D : Nat → Prop} {v : Value} {l : List Nat} {w : World} (h : Fct.at w D (.rw v l.length 1 (ncl l))) (hl : l.length ≤ 1000000) (h0 : 0 < l.length) :
    Calls Tryd.prog 82 #[v] w fun e w' => (∃ g cap rs, e = .returned (.slice (some ⟨g, 0, none⟩) l.length cap) ∧ Hid (Box w.heap.size g 3 (ncl l ++ rs) w') ∧ Hid (l.length ≤ cap ∧ cap ≤ 9223372036854775807)) ∧ Below w.heap.size w w' :=
  (cloneRInt h hl).mono fun e w' ⟨⟨v', h1, h2⟩, hb⟩ => by
    rcases h2.2 with ⟨rfl, hz⟩ | ⟨g, cap, cur, rfl, hge, hg, hn, hm, hs, ht⟩
    · omega
    · refine ⟨⟨g, cap, cur.toList.drop l.length, h1, Lib.hid ⟨hge, ?_⟩, Lib.hid ⟨hn, by unfold maxLen at hm; omega⟩⟩, hb⟩
      have e1 : ncl l ++ cur.toList.drop l.length = cur.toList := by
        rw [← ht]; simp
      rw [e1, Array.toArray_toList]; exact hg
theorem set_lt {q : Nat} {o : List Nat} (h : ∀ c ∈ o, c < q) {i v : Nat} (hv : v < q) : ∀ c ∈ o.set i v, c < q := fun c hc => by
  rcases List.mem_or_eq_of_mem_set hc with hc | rfl
  · exact h c hc
  · exact hv
theorem Rw.boxP {W : World} {B g : Nat} {T : TypeId} {o : List Nat} {cap : Nat} (hB : Box B g T (ncl o) W) (h1 : o.length ≤ cap) (h2 : cap ≤ 9223372036854775807) : Rw W (fun _ => True) (.slice (some ⟨g, 0, none⟩) o.length cap) o.length 1 (ncl o) :=
  Rw.boxN (rs := []) (by rw [List.append_nil]; exact hB) h1 h2
theorem wrapI_add (a b : Nat) (h : a + b ≤ 9223372036854775807) : IntKind.i64.wrap ((a : Int) + (b : Int)) = ((a + b : Nat) : Int) := by rw [IntKind.wrap_i64]; omega
theorem wrap64_add (a b : Nat) (h : a + b ≤ 9223372036854775807) : wrap64 ((a : Int) + (b : Int)) = ((a + b : Nat) : Int) := by rw [IntWalk.wrap64_in _ (by omega)]; rfl
/-- a list of the call's own, as a caller reads it -/
theorem OI.rwN {sg : List Bx} {cs : List Value} {v : Value} {o : List Nat} {D0 : Nat → Prop} {w W : World} {F : List Bx} {G : List Fct} (h : OI sg cs v (nl o)) (E : Env D0 w F G W) (hs : ∀ p ∈ sg, p ∈ F) : Rw W (fun b => w.heap.size ≤ b) v o.length 1 (ncl o) := by
  obtain ⟨h, ht⟩ := h
  rw [nl_len] at h ht
  rcases h with ⟨rfl, rfl, rfl, h0⟩ | ⟨g, cap, rfl, rfl, h1, h2, h3⟩
  · have : o = [] := List.length_eq_zero_iff.1 h0
    subst this; exact Rw.nil _ _ _
  · have hB := (held_iff.1 E.box).1 (g, 3, cs) (hs _ (by simp))
    refine ⟨_, cap, rfl, h1, h2, ncl_len o, ncl_one o, fun _ => ⟨g, 0, rfl, ⟨hB.lt, hB.1⟩, fun i u hu => ?_⟩⟩
    rw [Nat.zero_add]
    rw [show ncl o = cs.take o.length from ht.symm, List.getElem?_take] at hu
    split at hu
    · exact hB.cell _ hu
    · cases hu
theorem OI.snoc {g p : Nat} {cs : List Value} {o : List Nat} {x : Nat} (h : OI [(g, 3, cs)] cs (.slice (some ⟨g, 0, none⟩) ((nl o).length + 1) p) (nl o ++ [(x : Int)])) : OI [(g, 3, cs)] cs (.slice (some ⟨g, 0, none⟩) (nl (o ++ [x])).length p) (nl (o ++ [x])) := by
  have e : nl (o ++ [x]) = nl o ++ [(x : Int)] := by simp [nl]
  rw [e]; simpa using h
theorem OI.v {g p : Nat} {o : List Nat} {x : Nat} : Value.slice (some ⟨g, 0, none⟩) ((nl o).length + 1) p = .slice (some ⟨g, 0, none⟩) (nl (o ++ [x])).length p := by simp [nl]
theorem OI.nlnil : OI [] [] (.slice none (nl []).length 0) (nl []) := OI.nil
theorem nl_inj {a b : List Nat} (h : nl a = nl b) : a = b := by
  unfold nl at h
  exact List.map_inj_right (fun _ _ e => by exact_mod_cast e) |>.1 h
/-- slices.Equal of two rows of residues -/
theorem equalN_c {D : Nat → Prop} {a b : List Nat} {xa ya : Option Addr} {xk yk : Nat} {w : World} (hx : Fct.at w D (.rw (.slice xa a.length xk) a.length 1 (ncl a))) (hy : Fct.at w D (.rw (.slice ya b.length yk) b.length 1 (ncl b))) (hla : a.length ≤ 1000000) (hlb : b.length ≤ 1000000) {t : Bool} (ht : (a == b) = t) :
    Calls Tryd.prog 20 #[.slice xa a.length xk, .slice ya b.length yk] w fun e w' => e = .returned (.bool t) ∧ Below w.heap.size w w' := by
  subst ht
  by_cases hne : a.length = b.length
  · by_cases h0 : a.length = 0
    · have hb0 : b.length = 0 := by omega
      have e : (a == b) = true := by rw [List.length_eq_zero_iff.1 h0, List.length_eq_zero_iff.1 hb0]; rfl
      rw [e, h0, hb0]
      exact (Tryd.slices_Equal_int_empty xa ya xk 0 yk w (by omega)).mono fun e w' ⟨h1, h2⟩ => ⟨h1, by rw [h2]; exact Below.refl _ _⟩
    · obtain ⟨b1, o1, rfl⟩ := Rw.addr hx h0
      obtain ⟨b2, o2, rfl⟩ := Rw.addr hy (by omega)
      refine (Tryd.slices_Equal_int b1 o1 a.length xk b2 o2 b.length yk (nl a) (nl b) w (by rw [nl_len]; omega) (by rw [nl_len]; omega) (by omega) (by omega) (fun j hj => ?_) (fun j hj => ?_)).mono fun e w' ⟨h1, q, h2⟩ => ⟨?_, by rw [h2]; exact below_drewN (Below.refl _ _) q⟩
      · rw [nl_len] at hj; rw [(Rw.el hx h0 (ncl_get a j hj)).2]; simp [nl, List.getElem?_eq_getElem hj]
      · rw [nl_len] at hj; rw [(Rw.el hy (by omega) (ncl_get b j hj)).2]; simp [nl, List.getElem?_eq_getElem hj]
      · have e1 : (nl a).take a.length = nl a := List.take_of_length_le (by rw [nl_len]; omega)
        have e2 : (nl b).take b.length = nl b := List.take_of_length_le (by rw [nl_len]; omega)
        rw [e1, e2] at h1
        rw [h1]
        congr 2
        rw [Bool.eq_iff_iff, beq_iff_eq, beq_iff_eq]
        exact ⟨nl_inj, fun h => by rw [h]⟩
  · have e : (a == b) = false := by rw [beq_eq_false_iff_ne]; intro h; exact hne (by rw [h])
    rw [e]
    exact (Tryd.slices_Equal_int_lens xa ya _ xk _ yk w hne).mono fun e w' ⟨h1, h2⟩ => ⟨h1, by rw [h2]; exact Below.refl _ _⟩
theorem getD_elem {l : List Nat} {i : Nat} (h : i < l.length) : l.getD i 0 = l[i] := by rw [List.getD_eq_getElem?_getD, List.getElem?_eq_getElem h]; rfl
theorem Env.freezeN {D0 : Nat → Prop} {w W : World} {F : List Bx} {G : List Fct} {g : Nat} {T : TypeId} (l : List Nat) (E : Env D0 w ((g, T, ncl l) :: F) G W) (hn : l.length ≤ 1000000) : Env D0 w F (.rw (.slice (some ⟨g, 0, none⟩) l.length l.length) l.length 1 (ncl l) :: G) W := by
  have hB := E.box.1
  refine E.drop.note _ ⟨some ⟨g, 0, none⟩, l.length, rfl, Nat.le_refl _, by omega, ncl_len l, ncl_one l, fun _ => ⟨g, 0, rfl, ⟨hB.lt, fun p hp => E.box.2.1 p hp, .inr hB.1⟩, fun i u hu => ?_⟩⟩
  rw [Nat.zero_add]; exact hB.cell i hu
end Go.Proofs.YtinlfogpbologaaDoor

/- specielaw14: great over several matrices. -/
import Derived.Test.YtinlfogpbologaaDoorMatLa
namespace Go.Proofs.YtinlfogpbologaaDoor
open Go.RowKit DivMath WordMath
set_option linter.unusedVariables false
set_option linter.unusedSimpArgs false
/-- the headers in a block read as matrices -/
def gMats (g o : Nat) (l : List (List (List Int))) : GF where
  at_ w D := ∀ i (h : i < l.length), (g < w.heap.size ∧ D g) ∧ ∃ (a : Option Addr) (c : Nat), w.cell? ⟨g, o + i, none⟩ = some (.slice a l[i].length c) ∧ Mx w D (.slice a l[i].length c) l[i]
  turn h hs hD hc := fun i hi => by
    obtain ⟨h1, a, c, e1, e2⟩ := h i hi
    exact ⟨⟨Nat.lt_of_lt_of_le h1.1 hs, hD _ h1.1 h1.2⟩, a, c, (hc _ _ h1.1 h1.2).trans e1, e2.turn hs hD hc⟩
theorem Mx.tr {W : World} {D : Nat → Prop} {v : Value} {L : List (List Int)} (h : Mx W D v L) : Mx W (fun _ => True) v L := h.turn (Nat.le_refl _) (fun _ _ _ => trivial) (fun _ _ _ _ => rfl)
theorem Env.elG {D0 : Nat → Prop} {w W : World} {F : List Bx} {G : List Fct} (h : Env D0 w F G W) (i : Nat) {b o : Nat} {l : List (List (List Int))} (e : G[i]? = some (.gn (gMats b o l))) (k : Nat) (hk : k < l.length) :
    ∃ va vk, Env D0 w F (.ce b (o + k) (.slice va l[k].length vk) :: .mx (.slice va l[k].length vk) l[k] :: G) W := by
  obtain ⟨h1, a, c, e1, e2⟩ := (h.fc i e : (gMats b o l).at_ W (DF D0 w.heap.size F)) k hk
  exact ⟨a, c, (h.note (.mx _ _) e2).note (.ce _ _ _) ⟨h1, e1⟩⟩
/-- headers in a box -/
theorem gMats.one {W : World} {B g n : Nat} {T : TypeId} {D : Nat → Prop} {a : Option Addr} {c : Nat} {M : List (List Int)} (hn : M.length = n) (hB : Box B g T [.slice a n c] W) (h : Fct.at W D (.mx (.slice a n c) M)) : Fct.at W (fun _ => True) (.gn (gMats g 0 [M])) := by
  subst hn
  intro i hi
  obtain rfl : i = 0 := by have : i < 1 := hi; omega
  exact ⟨⟨hB.lt, trivial⟩, a, c, hB.cell 0 rfl, Mx.tr h⟩
theorem gMats.two {W : World} {B g n n2 : Nat} {T : TypeId} {D : Nat → Prop} {a a2 : Option Addr} {c c2 : Nat} {M N : List (List Int)} (hn : M.length = n) (hn2 : N.length = n2) (hB : Box B g T [.slice a n c, .slice a2 n2 c2] W) (h : Fct.at W D (.mx (.slice a n c) M)) (h2 : Fct.at W D (.mx (.slice a2 n2 c2) N)) : Fct.at W (fun _ => True) (.gn (gMats g 0 [M, N])) := by
  subst hn hn2
  intro i hi
  have : i < 2 := hi
  rcases (by omega : i = 0 ∨ i = 1) with rfl | rfl
  · exact ⟨⟨hB.lt, trivial⟩, a, c, hB.cell 0 rfl, Mx.tr h⟩
  · exact ⟨⟨hB.lt, trivial⟩, a2, c2, hB.cell 1 rfl, Mx.tr h2⟩
set_option maxRecDepth 100000 in
set_option maxHeartbeats 1000000 in
theorem grgI {D : Nat → Prop} (l : List (List (List Int))) {xb xo xk : Nat} {w : World} (hx : Fct.at w D (.gn (gMats xb xo l)))  {r : Int} (hr0 : (r = -1 ∧ ∀ k (h : k < l.length), grM (l[k]) = false) ∨ ∃ k : Nat, r = (k : Int) ∧ ∃ h : k < l.length, grM (l[k]) = true ∧ ∀ j (h : j < l.length), j < k → grM (l[j]) = false) (hm : l.length ≤ 1000000) :
    Calls Tryd.prog 110 #[.slice (some ⟨xb, xo, none⟩) l.length xk, .func (.func 71) #[] #[]] w fun e w' => e = .returned (.int .i64 r) ∧ Below w.heap.size w w' := by
  have E0 : Hid (Env D w [] [.gn (gMats xb xo l)] w) := Lib.hid ((Env.start D w).arg (.gn (gMats xb xo l)) hx)
  clear hx
  go_enter Tryd.func110, Tryd.ntmps110
  have hr := Lib.hid hr0
  clear hr0
  go_wp2_with fail
  go_loopg [8] (l.length) (fun gk s8 wr => ∃ (k : Nat), s8 = .int .i64 (k : Int) ∧ Hid (Env D w [] [.gn (gMats xb xo l)] wr) ∧ Hid ((k ≤ l.length ∧ gk = l.length - k) ∧ ∀ j (h : j < l.length), j < k → grM (l[j]) = false))
  case atStart => exact ⟨0, rfl, Lib.hid E0.out, Lib.hid ⟨⟨Nat.zero_le _, rfl⟩, fun j _ h => absurd h (Nat.not_lt_zero _)⟩⟩
  case round =>
    clear E0
    obtain ⟨k, rfl, EL, HA⟩ := hrel
    obtain ⟨⟨a1, a2⟩, a3⟩ := HA.out
    have HS := Lib.hid a3
    clear a3 HA
    by_cases hy : k = l.length
    rotate_left
    · have hk : k < l.length := by omega
      have t6 : decide ((k : Int) < (l.length : Int)) = true := decide_eq_true (by omega)
      have t7 : decide (k < l.length) = true := decide_eq_true hk
      clear hy
      obtain ⟨ua, uk, E10⟩ := EL.out.elG 0 rfl (k) hk
      have E1 : Hid (Env D w [] [.ce xb (xo + k) (.slice ua l[k].length uk), .mx (.slice ua l[k].length uk) l[k], .gn (gMats xb xo l)] _) := Lib.hid E10
      clear E10 EL
      have u0 := (E1.out.fc 0 rfl).2
      by_cases hb : grM (l[k]) = true
      · have HB := Lib.hid hb
        have HR : Hid (r = (k : Int)) := Lib.hid (by rcases hr.out with ⟨_, h9⟩ | ⟨j, rfl, hj, h8, h7⟩; (· have := h9 k hk; rw [hb] at this; cases this); rcases Nat.lt_trichotomy j k with e | e | e; (· have := HS.out j hj e; rw [h8] at this; cases this); (· rw [e]); (· have := h7 k hk e; rw [hb] at this; cases this))
        clear hb
        go_wp2_with fail
        refine (great1_c l[k] (E1.out.fc 1 rfl) HB.out).mono ?_
        rintro e w1 ⟨rfl, hb⟩
        have E2 : Hid (Env D w [] [.ce xb (xo + k) (.slice ua l[k].length uk), .mx (.slice ua l[k].length uk) l[k], .gn (gMats xb xo l)] w1) := Lib.hid (E1.out.below hb)
        clear u0 E1 hb
        have hfin := Lib.hid E2.out.bel
        go_wp2
        go_ret
        exact ⟨RetEq HR.out.symm, hfin.out⟩
      · have HB := Lib.hid (Bool.eq_false_iff.2 hb)
        clear hb
        go_wp2_with fail
        refine (great1_c l[k] (E1.out.fc 1 rfl) HB.out).mono ?_
        rintro e w1 ⟨rfl, hb⟩
        have E2 : Hid (Env D w [] [.ce xb (xo + k) (.slice ua l[k].length uk), .mx (.slice ua l[k].length uk) l[k], .gn (gMats xb xo l)] w1) := Lib.hid (E1.out.below hb)
        clear u0 E1 hb
        have EZ := Lib.hid ((E2.out.forget).forget)
        go_wp2
        go_roundg (l.length - (k + 1))
        case rel => exact ⟨k + 1, rfl, EZ, Lib.hid ⟨⟨by omega, rfl⟩, fun j h hj => by by_cases e : j = k; (· subst e; exact HB.out); exact HS.out j h (by omega)⟩⟩
        case measure => exact by omega
    have t6 : decide ((k : Int) < (l.length : Int)) = false := decide_eq_false (by omega)
    have t7 : decide (k < l.length) = false := decide_eq_false (by omega)
    have HR : Hid (r = -1) := Lib.hid (by rcases hr.out with ⟨h9, _⟩ | ⟨j, rfl, hj, h8, h7⟩; (· exact h9); have := HS.out j hj (by omega); rw [h8] at this; cases this)
    have HY := Lib.hid hy
    clear hy
    have hfin := Lib.hid EL.out.bel
    go_wp2
    go_ret
    exact ⟨RetEq HR.out.symm, hfin.out⟩
set_option maxRecDepth 100000 in
set_option maxHeartbeats 1000000 in
theorem grgC {D : Nat → Prop} (l : List (List (List Int))) {xb xo xk : Nat} {w : World} (hx : Fct.at w D (.gn (gMats xb xo l)))  {t : Bool} (ht0 : l.any (fun x => grM (x)) = t) (hm : l.length ≤ 1000000) :
    Calls Tryd.prog 70 #[.slice (some ⟨xb, xo, none⟩) l.length xk, .func (.func 71) #[] #[]] w fun e w' => e = .returned (.bool t) ∧ Below w.heap.size w w' := by
  have E0 : Hid (Env D w [] [.gn (gMats xb xo l)] w) := Lib.hid ((Env.start D w).arg (.gn (gMats xb xo l)) hx)
  clear hx
  go_enter Tryd.func70, Tryd.ntmps70
  have ht := Lib.hid ht0
  clear ht0
  obtain ⟨r, hr⟩ : ∃ r : Int, ((r = -1 ∧ ∀ k (h : k < l.length), grM (l[k]) = false) ∨ ∃ k : Nat, r = (k : Int) ∧ ∃ h : k < l.length, grM (l[k]) = true ∧ ∀ j (h : j < l.length), j < k → grM (l[j]) = false) := first_any l (fun x => grM (x))
  have hd : Hid (decide (0 ≤ r) = t) := Lib.hid (by rw [← ht.out]; exact first_dec hr)
  have HR := Lib.hid hr
  clear hr ht
  go_wp2_with fail
  refine (grgI l (E0.out.fc 0 rfl) (hr0 := HR.out) (hm := hm)).mono ?_
  rintro e w1 ⟨rfl, hb⟩
  have E1 : Hid (Env D w [] [.gn (gMats xb xo l)] w1) := Lib.hid (E0.out.below hb)
  clear E0 hb
  have HD := hd.out
  have hfin := Lib.hid E1.out.bel
  go_wp2
  go_ret
  exact ⟨rfl, hfin.out⟩
set_option maxRecDepth 100000 in
set_option maxHeartbeats 1000000 in
theorem great14_c {D : Nat → Prop} (l : List (List (List Int))) {xb xo xk : Nat} {w : World} (hx : Fct.at w D (.gn (gMats xb xo l)))  {t : Bool} (ht0 : l.any (fun x => grM x) = t) (hm : l.length ≤ 1000000) :
    Calls Tryd.prog 31 #[.slice (some ⟨xb, xo, none⟩) l.length xk] w fun e w' => e = .returned (.bool t) ∧ Below w.heap.size w w' := by
  have E0 : Hid (Env D w [] [.gn (gMats xb xo l)] w) := Lib.hid ((Env.start D w).arg (.gn (gMats xb xo l)) hx)
  clear hx
  go_enter Tryd.func31, Tryd.ntmps31
  have ht := Lib.hid ht0
  clear ht0
  go_wp2_with fail
  refine (grgC l (E0.out.fc 0 rfl) ht.out hm).mono ?_
  rintro e w1 ⟨rfl, hb⟩
  have E1 : Hid (Env D w [] [.gn (gMats xb xo l)] w1) := Lib.hid (E0.out.below hb)
  clear E0 hb
  have hfin := Lib.hid E1.out.bel
  go_wp2
  go_ret
  exact ⟨rfl, hfin.out⟩
end Go.Proofs.YtinlfogpbologaaDoor

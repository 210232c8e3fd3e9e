/- poly: isPrime, residues. -/
import Derived.Test.YteipbcpnnojclaaDoorPolC
import Derived.Deep.DeepCutAuto
import Derived.Deep.CutBlock
namespace Go.Proofs.YteipbcpnnojclaaDoor
open Go.RowKit DivMath WordMath
set_option linter.unusedVariables false
set_option linter.unusedSimpArgs false
/-- a row of residues: its cells -/
def ncl (l : List Nat) : List Value := icl (nl l)
theorem ncl_len (l : List Nat) : (ncl l).length = l.length * 1 := by rw [ncl, icl_len, nl_len]
theorem ncl_get (l : List Nat) (i : Nat) (h : i < l.length) : (ncl l)[i]? = some (.int .i64 (l[i] : Nat)) := by
  rw [ncl, icl_get _ i (by rw [nl_len]; exact h)]; simp [nl]
theorem ncl_set (l : List Nat) (k v : Nat) : (ncl l).set k (.int .i64 (v : Nat)) = ncl (l.set k v) := by simp [ncl, nl, icl, List.map_set]
theorem ncl_rep (n : Nat) : icl (List.replicate n 0) = ncl (List.replicate n 0) := by simp [ncl, nl]
theorem ncl_one (l : List Nat) : ∀ u ∈ ncl l, u.oneCell' = true := icl_one _
/-- the cell of a residue of a row -/
theorem Env.elN {D0 : Nat → Prop} {w W : World} {F : List Bx} {G : List Fct} (h : Env D0 w F G W) (i : Nat) {b off n j : Nat} {l : List Nat} (e : G[i]? = some (.rw (.slice (some ⟨b, off, none⟩) n j) n 1 (ncl l))) (hn : n = l.length) (k : Nat) (hk : k < l.length) :
    Env D0 w F (.ce b (off + k) (.int .i64 (l[k] : Nat)) :: G) W := by
  have hm : Rw W (DF D0 w.heap.size F) (.slice (some ⟨b, off, none⟩) n j) n 1 (ncl l) := h.fct.get i e
  exact h.note _ (hm.el (by omega) (ncl_get l k hk))
/-- a row of residues came back -/
def RetI (D : Nat → Prop) (l : List Nat) (e : Ending) (W : World) : Prop := ∃ ao k, e = .returned (.slice ao l.length k) ∧ Hid (Rw W D (.slice ao l.length k) l.length 1 (ncl l))
/-- and an error number -/
def RetIE (D : Nat → Prop) (l : List Nat) (c : Int) (e : Ending) (W : World) : Prop := ∃ ao k, e = .returned (.tuple #[.slice ao l.length k, .int .i64 c]) ∧ Hid (Rw W D (.slice ao l.length k) l.length 1 (ncl l))
/-- a prime, as both texts test it, below 2^61 -/
def fieldB (q : Int) : Bool := decide (q < 2305843009213693952) && Pri.isP q.toNat
/-- a residue -/
def resB (q x : Int) : Bool := decide (0 ≤ x) && decide (x < q)
theorem fieldB_pos {q : Int} (h : fieldB q = true) : ∃ n : Nat, q = (n : Int) ∧ 2 ≤ n ∧ (n : Int) < Top := by
  unfold fieldB at h
  simp only [Bool.and_eq_true, decide_eq_true_eq] at h
  obtain ⟨h1, h2⟩ := h
  unfold Pri.isP at h2
  split at h2
  · cases h2
  · exact ⟨q.toNat, by omega, by omega, by unfold Top; omega⟩
set_option maxHeartbeats 1000000 in
theorem isPrime_c (q : Int) (w : World) {t : Bool} (hl : Laid w) (hn : -9223372036854775808 ≤ q ∧ q ≤ 9223372036854775807) (ht : fieldB q = t) :
    Calls Tryd.prog 104 #[.int .i64 q] w fun e w' => e = .returned (.bool t) ∧ Below w.heap.size w w' := by
  by_cases h : q < 2305843009213693952
  · have d1 : decide (q < 2305843009213693952) = true := decide_eq_true h
    obtain ⟨b, hb⟩ : ∃ b, b = Pri.isP q.toNat := ⟨_, rfl⟩
    have htb : t = b := by rw [← ht, hb]; unfold fieldB; rw [d1, Bool.true_and]
    have cc := Is_c q w hl hn
    rw [← hb] at cc
    have CC := Lib.hid cc
    subst htb
    clear ht hb cc hn h hl
    go_enter Tryd.func104, Tryd.ntmps104
    go_wp2_with fail
    refine CC.out.mono ?_
    rintro e w1 ⟨rfl, n, rfl⟩
    go_wp2
    go_ret
    exact ⟨rfl, below_drewN (Below.refl _ _) _⟩
  · have d1 : decide (q < 2305843009213693952) = false := decide_eq_false h
    have htb : t = false := by rw [← ht]; unfold fieldB; rw [d1, Bool.false_and]
    subst htb
    clear ht hl
    go_enter Tryd.func104, Tryd.ntmps104
    go_wp2
    go_ret
    exact ⟨rfl, Below.refl _ _⟩
set_option maxHeartbeats 1000000 in
theorem res1_c (q x : Int) (g : Nat) (w : World) (hg : w.cell? ⟨g, 0, none⟩ = some (.int .i64 q)) {t : Bool} (ht : (!resB q x) = t) :
    Calls Tryd.prog 112 #[.int .i64 x, .pointer (some ⟨g, 0, none⟩)] w fun e w' => e = .returned (.bool t) ∧ Below w.heap.size w w' := by
  unfold resB at ht
  by_cases h : x < 0
  · have d1 : decide (x < 0) = true := decide_eq_true h
    have : t = true := by rw [← ht]; simp; omega
    subst this
    clear ht
    go_enter Tryd.func112, Tryd.ntmps112
    go_wp2
    go_ret
    exact ⟨rfl, Below.refl _ _⟩
  · have d1 : decide (x < 0) = false := decide_eq_false h
    have d2 : decide (q ≤ x) = t := by rw [← ht, Bool.eq_iff_iff]; simp; omega
    clear ht
    go_enter Tryd.func112, Tryd.ntmps112
    go_wp2
    go_ret
    exact ⟨rfl, Below.refl _ _⟩
theorem Fct.any {W : World} {D : Nat → Prop} {f : Fct} (h : Fct.at W D f) : Fct.at W (fun _ => True) f := Fct.turn h (Nat.le_refl _) (fun _ _ _ => trivial) (fun _ _ _ _ => rfl)
theorem RetEq {a b : Int} (h : a = b) : Ending.returned (.int .i64 a) = Ending.returned (.int .i64 b) := by rw [h]
theorem first_any {α : Type} (l : List α) (p : α → Bool) : ∃ r : Int, ((r = -1 ∧ ∀ k (h : k < l.length), p l[k] = false) ∨ ∃ k : Nat, r = (k : Int) ∧ ∃ h : k < l.length, p l[k] = true ∧ ∀ j (h : j < l.length), j < k → p l[j] = false) := by
  induction l with
  | nil => exact ⟨-1, .inl ⟨rfl, fun k h => absurd h (Nat.not_lt_zero _)⟩⟩
  | cons a l ih =>
    by_cases ha : p a = true
    · exact ⟨0, .inr ⟨0, rfl, Nat.zero_lt_succ _, ha, fun j _ h => absurd h (Nat.not_lt_zero _)⟩⟩
    · have ha' : p a = false := by simpa using ha
      obtain ⟨r, h | ⟨k, rfl, hk, h1, h2⟩⟩ := ih
      · refine ⟨-1, .inl ⟨rfl, fun k hk => ?_⟩⟩
        rcases k with _ | k
        · exact ha'
        · exact h.2 k (by simpa using hk)
      · refine ⟨((k + 1 : Nat) : Int), .inr ⟨k + 1, rfl, by simpa using hk, h1, fun j hj hjk => ?_⟩⟩
        rcases j with _ | j
        · exact ha'
        · exact h2 j (by simpa using hj) (by omega)
theorem first_dec {α : Type} {l : List α} {p : α → Bool} {r : Int} (h : (r = -1 ∧ ∀ k (h : k < l.length), p l[k] = false) ∨ ∃ k : Nat, r = (k : Int) ∧ ∃ h : k < l.length, p l[k] = true ∧ ∀ j (h : j < l.length), j < k → p l[j] = false) : decide (0 ≤ r) = l.any p := by
  rcases h with ⟨rfl, h⟩ | ⟨k, rfl, hk, h1, _⟩
  · symm
    show l.any p = false
    rw [List.any_eq_false]
    intro x hx
    obtain ⟨k, hk, rfl⟩ := List.getElem_of_mem hx
    rw [h k hk]; simp
  · have : l.any p = true := List.any_eq_true.2 ⟨l[k], List.getElem_mem hk, h1⟩
    rw [this]; exact decide_eq_true (by omega)
set_option maxRecDepth 100000 in
set_option maxHeartbeats 1000000 in
theorem resI {D : Nat → Prop} (l : List Int) (q : Int) (g : Nat) {xa : Option Addr} {xk : Nat} {w : World} (hx : Fct.at w D (.rw (.slice xa l.length xk) l.length 1 (icl l))) (hg : Fct.at w D (.ce g 0 (.int .i64 q)))  {r : Int} (hr0 : (r = -1 ∧ ∀ k (h : k < l.length), (!resB q l[k]) = false) ∨ ∃ k : Nat, r = (k : Int) ∧ ∃ h : k < l.length, (!resB q l[k]) = true ∧ ∀ j (h : j < l.length), j < k → (!resB q l[j]) = false) (hm : l.length ≤ 1000000) :
    Calls Tryd.prog 148 #[.slice xa l.length xk, .func (.func 112) #[] #[.pointer (some ⟨g, 0, none⟩)]] w fun e w' => e = .returned (.int .i64 r) ∧ Below w.heap.size w w' := by
  have E0 : Hid (Env D w [] [.ce g 0 (.int .i64 q), .rw (.slice xa l.length xk) l.length 1 (icl l)] w) := Lib.hid (((Env.start D w).arg (.rw (.slice xa l.length xk) l.length 1 (icl l)) hx).arg (.ce g 0 (.int .i64 q)) hg)
  clear hx hg
  go_enter Tryd.func148, Tryd.ntmps148
  have hr := Lib.hid hr0
  clear hr0
  go_wp2_with fail
  go_loopg [8] (l.length) (fun gk s8 wr => ∃ (k : Nat), s8 = .int .i64 (k : Int) ∧ Hid (Env D w [] [.ce g 0 (.int .i64 q), .rw (.slice xa l.length xk) l.length 1 (icl l)] wr) ∧ Hid ((k ≤ l.length ∧ gk = l.length - k) ∧ ∀ j (h : j < l.length), j < k → (!resB q l[j]) = false))
  case atStart => exact ⟨0, rfl, Lib.hid E0.out, Lib.hid ⟨⟨Nat.zero_le _, rfl⟩, fun j _ h => absurd h (Nat.not_lt_zero _)⟩⟩
  case round =>
    clear E0
    obtain ⟨k, rfl, EL, HA⟩ := hrel
    obtain ⟨⟨a1, a2⟩, a3⟩ := HA.out
    have HS := Lib.hid a3
    clear a3 HA
    by_cases hy : k = l.length
    rotate_left
    · have hk : k < l.length := by omega
      have t6 : decide ((k : Int) < (l.length : Int)) = true := decide_eq_true (by omega)
      have t7 : decide (k < l.length) = true := decide_eq_true hk
      clear hy
      obtain ⟨xab, xao, rfl⟩ := Rw.addr (EL.out.fc 1 rfl) (by omega)
      have E1 : Hid (Env D w [] [.ce xab (xao + k) (.int .i64 l[k]), .ce g 0 (.int .i64 q), .rw (.slice (some ⟨xab, xao, none⟩) l.length xk) l.length 1 (icl l)] _) := Lib.hid (EL.out.elI 1 rfl rfl (k) hk)
      clear EL
      have u0 := (E1.out.fc 0 rfl).2
      by_cases hb : (!resB q l[k]) = true
      · have HB := Lib.hid hb
        have HR : Hid (r = (k : Int)) := Lib.hid (by rcases hr.out with ⟨_, h9⟩ | ⟨j, rfl, hj, h8, h7⟩; (· have := h9 k hk; rw [hb] at this; cases this); rcases Nat.lt_trichotomy j k with e | e | e; (· have := HS.out j hj e; rw [h8] at this; cases this); (· rw [e]); (· have := h7 k hk e; rw [hb] at this; cases this))
        clear hb
        go_wp2_with fail
        refine (res1_c q l[k] g _ ((E1.out.fc 1 rfl)).2 HB.out).mono ?_
        rintro e w1 ⟨rfl, hb⟩
        have E2 : Hid (Env D w [] [.ce xab (xao + k) (.int .i64 l[k]), .ce g 0 (.int .i64 q), .rw (.slice (some ⟨xab, xao, none⟩) l.length xk) l.length 1 (icl l)] w1) := Lib.hid (E1.out.below hb)
        clear u0 E1 hb
        have hfin := Lib.hid E2.out.bel
        go_wp2
        go_ret
        exact ⟨RetEq HR.out.symm, hfin.out⟩
      · have HB := Lib.hid (Bool.eq_false_iff.2 hb)
        clear hb
        go_wp2_with fail
        refine (res1_c q l[k] g _ ((E1.out.fc 1 rfl)).2 HB.out).mono ?_
        rintro e w1 ⟨rfl, hb⟩
        have E2 : Hid (Env D w [] [.ce xab (xao + k) (.int .i64 l[k]), .ce g 0 (.int .i64 q), .rw (.slice (some ⟨xab, xao, none⟩) l.length xk) l.length 1 (icl l)] w1) := Lib.hid (E1.out.below hb)
        clear u0 E1 hb
        have EZ := Lib.hid (E2.out.forget)
        go_wp2
        go_roundg (l.length - (k + 1))
        case rel => exact ⟨k + 1, rfl, EZ, Lib.hid ⟨⟨by omega, rfl⟩, fun j h hj => by by_cases e : j = k; (· subst e; exact HB.out); exact HS.out j h (by omega)⟩⟩
        case measure => exact by omega
    have t6 : decide ((k : Int) < (l.length : Int)) = false := decide_eq_false (by omega)
    have t7 : decide (k < l.length) = false := decide_eq_false (by omega)
    have HR : Hid (r = -1) := Lib.hid (by rcases hr.out with ⟨h9, _⟩ | ⟨j, rfl, hj, h8, h7⟩; (· exact h9); have := HS.out j hj (by omega); rw [h8] at this; cases this)
    have HY := Lib.hid hy
    clear hy
    have hfin := Lib.hid EL.out.bel
    go_wp2
    go_ret
    exact ⟨RetEq HR.out.symm, hfin.out⟩
set_option maxRecDepth 100000 in
set_option maxHeartbeats 1000000 in
theorem resC {D : Nat → Prop} (l : List Int) (q : Int) (g : Nat) {xa : Option Addr} {xk : Nat} {w : World} (hx : Fct.at w D (.rw (.slice xa l.length xk) l.length 1 (icl l))) (hg : Fct.at w D (.ce g 0 (.int .i64 q)))  {t : Bool} (ht0 : l.any (fun x => (!resB q x)) = t) (hm : l.length ≤ 1000000) :
    Calls Tryd.prog 111 #[.slice xa l.length xk, .func (.func 112) #[] #[.pointer (some ⟨g, 0, none⟩)]] w fun e w' => e = .returned (.bool t) ∧ Below w.heap.size w w' := by
  have E0 : Hid (Env D w [] [.ce g 0 (.int .i64 q), .rw (.slice xa l.length xk) l.length 1 (icl l)] w) := Lib.hid (((Env.start D w).arg (.rw (.slice xa l.length xk) l.length 1 (icl l)) hx).arg (.ce g 0 (.int .i64 q)) hg)
  clear hx hg
  go_enter Tryd.func111, Tryd.ntmps111
  have ht := Lib.hid ht0
  clear ht0
  obtain ⟨r, hr⟩ : ∃ r : Int, ((r = -1 ∧ ∀ k (h : k < l.length), (!resB q l[k]) = false) ∨ ∃ k : Nat, r = (k : Int) ∧ ∃ h : k < l.length, (!resB q l[k]) = true ∧ ∀ j (h : j < l.length), j < k → (!resB q l[j]) = false) := first_any l (fun x => (!resB q x))
  have hd : Hid (decide (0 ≤ r) = t) := Lib.hid (by rw [← ht.out]; exact first_dec hr)
  have HR := Lib.hid hr
  clear hr ht
  go_wp2_with fail
  refine (resI l q g (E0.out.fc 1 rfl) (E0.out.fc 0 rfl) (hr0 := HR.out) (hm := hm)).mono ?_
  rintro e w1 ⟨rfl, hb⟩
  have E1 : Hid (Env D w [] [.ce g 0 (.int .i64 q), .rw (.slice xa l.length xk) l.length 1 (icl l)] w1) := Lib.hid (E0.out.below hb)
  clear E0 hb
  have HD := hd.out
  have hfin := Lib.hid E1.out.bel
  go_wp2
  go_ret
  exact ⟨rfl, hfin.out⟩
set_option maxRecDepth 100000 in
set_option maxHeartbeats 1000000 in
theorem residues_c {D : Nat → Prop} (q : Int) (l : List Int) {xa : Option Addr} {xk : Nat} {w : World} (hx : Fct.at w D (.rw (.slice xa l.length xk) l.length 1 (icl l))) {t : Bool} (ht0 : l.all (resB q) = t) (hm : l.length ≤ 1000000) :
    Calls Tryd.prog 70 #[.int .i64 q, .slice xa l.length xk] w fun e w' => e = .returned (.bool t) ∧ Below w.heap.size w w' := by
  have E0 : Hid (Env D w [] [.rw (.slice xa l.length xk) l.length 1 (icl l)] w) := Lib.hid ((Env.start D w).arg (.rw (.slice xa l.length xk) l.length 1 (icl l)) hx)
  clear hx
  go_enter Tryd.func70, Tryd.ntmps70
  have ht : Hid (l.any (fun x => !resB q x) = !t) := Lib.hid (by rw [← ht0, List.not_all_eq_any_not])
  clear ht0
  have E1 : Hid (Env D w [(w.heap.size, 3, [.int .i64 q])] [.rw (.slice xa l.length xk) l.length 1 (icl l)] _) := Lib.hid ((E0.out.push 3 [.int .i64 q] (w.heap.size) (by simp)))
  go_wp2_with fail
  refine (resC l q (w.heap.size) (Fct.any (E1.out.fc 0 rfl)) ⟨⟨(E1.out.bx 0 rfl).lt, trivial⟩, (E1.out.bx 0 rfl).cell 0 rfl⟩ ht.out hm).mono ?_
  rintro e w1 ⟨rfl, hb⟩
  have E2 : Hid (Env D w [(w.heap.size, 3, [.int .i64 q])] [.rw (.slice xa l.length xk) l.length 1 (icl l)] w1) := Lib.hid (E1.out.below hb)
  clear E0 E1 hb
  have hfin := Lib.hid E2.out.bel
  go_wp2
  go_ret
  exact ⟨rfl, hfin.out⟩
end Go.Proofs.YteipbcpnnojclaaDoor

/- Root of both. -/
import Derived.Test.YtinlfogpbologaaDoorPriI
namespace Go.Proofs.YtinlfogpbologaaDoor
open Go.RowKit DivMath WordMath
set_option linter.unusedVariables false
set_option linter.unusedSimpArgs false
theorem Fac_some {D : Nat → Prop} (N : Nat) (l : List Nat) {w : World} (hl0 : Laid w) (h0 : 1 ≤ (N : Int)) (hT : (N : Int) ≤ 2305843009213693951) (h : Pri.facN N = some l) :
    Calls Tryd.prog 49 #[.int .i64 (N : Nat)] w fun e w' => RetIE (fun b => w.heap.size ≤ b) l 0 e w' ∧ Below w.heap.size w w' := by
  by_cases h1 : (Pri.facs 2 N).2 = 1
  · rw [Pri.facN_one h1] at h; cases h; exact Fac_one (D := D) N hl0 h0 hT h1
  · cases hp : Pri.isP (Pri.facs 2 N).2 with
    | false => rw [Pri.facN_none h1 hp] at h; cases h
    | true => rw [Pri.facN_more h1 hp] at h; cases h; exact Fac_more (D := D) N hl0 h0 hT h1 hp
theorem Fac_no {D : Nat → Prop} (N : Nat) {w : World} (hl0 : Laid w) (h0 : 1 ≤ (N : Int)) (hT : (N : Int) ≤ 2305843009213693951) (h : Pri.facN N = none) :
    Calls Tryd.prog 49 #[.int .i64 (N : Nat)] w fun e w' => e = .returned (.tuple #[.slice none 0 0, .int .i64 9]) ∧ Below w.heap.size w w' := by
  by_cases h1 : (Pri.facs 2 N).2 = 1
  · rw [Pri.facN_one h1] at h; cases h
  · cases hp : Pri.isP (Pri.facs 2 N).2 with
    | false => exact Fac_none (D := D) N hl0 h0 hT h1 hp
    | true => rw [Pri.facN_more h1 hp] at h; cases h
theorem rFac_some {D : Nat → Prop} (N : Nat) (l : List Nat) {w : World} (h0 : 1 ≤ (N : Int)) (hT : (N : Int) ≤ 2305843009213693951) (h : Pri.facN N = some l) :
    Calls Tryd.prog 50 #[.int .i64 (N : Nat)] w fun e w' => RetIB (fun b => w.heap.size ≤ b) l true e w' ∧ Below w.heap.size w w' := by
  by_cases h1 : (Pri.facs 2 N).2 = 1
  · rw [Pri.facN_one h1] at h; cases h; exact rFac_one (D := D) N h0 hT h1
  · cases hp : Pri.isP (Pri.facs 2 N).2 with
    | false => rw [Pri.facN_none h1 hp] at h; cases h
    | true => rw [Pri.facN_more h1 hp] at h; cases h; exact rFac_more (D := D) N h0 hT h1 hp
theorem rFac_no {D : Nat → Prop} (N : Nat) {w : World} (h0 : 1 ≤ (N : Int)) (hT : (N : Int) ≤ 2305843009213693951) (h : Pri.facN N = none) :
    Calls Tryd.prog 50 #[.int .i64 (N : Nat)] w fun e w' => e = .returned (.tuple #[.slice none 0 0, .bool false]) ∧ Below w.heap.size w w' := by
  by_cases h1 : (Pri.facs 2 N).2 = 1
  · rw [Pri.facN_one h1] at h; cases h
  · cases hp : Pri.isP (Pri.facs 2 N).2 with
    | false => exact rFac_none (D := D) N h0 hT h1 hp
    | true => rw [Pri.facN_more h1 hp] at h; cases h
/-- a prime below 2^61, as both texts test it -/
def belowB (q : Int) : Bool := decide (q < 2305843009213693952) && Pri.isP q.toNat
theorem isP_two {n : Nat} (h : Pri.isP n = true) : 2 ≤ n := by
  unfold Pri.isP at h
  split at h
  · cases h
  · omega
theorem belowB_pos {q : Int} (h : belowB q = true) : ∃ n : Nat, q = (n : Int) ∧ 2 ≤ n ∧ (n : Int) < Top ∧ Pri.isP n = true := by
  unfold belowB at h
  simp only [Bool.and_eq_true, decide_eq_true_eq] at h
  obtain ⟨h1, h2⟩ := h
  have := isP_two h2
  exact ⟨q.toNat, by omega, by omega, by unfold Top; omega, h2⟩
theorem belowB_of {n : Nat} (h : Pri.isP n = true) (hT : (n : Int) < Top) : belowB (n : Int) = true := by
  unfold belowB; unfold Top at hT
  rw [decide_eq_true (by omega), Int.toNat_natCast, h]; rfl
theorem fac_good {p : Nat} {l : List Nat} (hp : 2 ≤ p) (hT : (p : Int) < Top) (hf : Pri.facN (p - 1) = some l) : l.length ≤ 1000 ∧ ∀ f ∈ l, 2 ≤ f ∧ f ≤ p - 1 := by
  obtain ⟨h1, h2⟩ := Pri.facN_all (by omega) (by unfold Top at hT; omega) hf
  exact ⟨by omega, fun f h => ⟨(h2 f h).1, (h2 f h).2.2⟩⟩
set_option maxRecDepth 100000 in
set_option maxHeartbeats 1000000 in
theorem Root_no {D : Nat → Prop} (q : Int) {w : World}  (hl0 : Laid w) (hn : -9223372036854775808 ≤ q ∧ q ≤ 9223372036854775807) (hb0 : belowB q = false) :
    Calls Tryd.prog 51 #[.int .i64 q] w fun e w' => e = .returned (.tuple #[.int .i64 0, .int .i64 1]) ∧ Below w.heap.size w w' := by
  have E0 : Hid (Env D w [] [] w) := Lib.hid (Env.start D w)
  go_enter Tryd.func51, Tryd.ntmps51
  have hl := Lib.hid hl0
  have hb := Lib.hid hb0
  clear hl0 hb0
  go_wp2_with fail
  refine (below_c q _ (hl.out.below E0.out.bel) hn hb.out).mono ?_
  rintro e w1 ⟨rfl, hb⟩
  have E1 : Hid (Env D w [] [] w1) := Lib.hid (E0.out.below hb)
  clear E0 hb
  have hfin := Lib.hid E1.out.bel
  go_wp2
  go_ret2
  exact ⟨rfl, hfin.out⟩
set_option maxRecDepth 100000 in
set_option maxHeartbeats 1000000 in
theorem Root_some {D : Nat → Prop} (p : Nat) (l : List Nat) (r : Nat) {w : World}  (hl0 : Laid w) (hT : (p : Int) < Top) (hp0 : Pri.isP p = true) (hf0 : Pri.facN (p - 1) = some l) (hr0 : Pri.RootR p l r) :
    Calls Tryd.prog 51 #[.int .i64 (p : Nat)] w fun e w' => e = .returned (.tuple #[.int .i64 (r : Nat), .int .i64 0]) ∧ Below w.heap.size w w' := by
  have E0 : Hid (Env D w [] [] w) := Lib.hid (Env.start D w)
  go_enter Tryd.func51, Tryd.ntmps51
  have hp2 := isP_two hp0
  have hT9 : (p : Int) ≤ 2305843009213693951 := by unfold Top at hT; omega
  have hb : Hid (belowB (p : Int) = true) := Lib.hid (belowB_of hp0 hT)
  have hg := Lib.hid (fac_good hp2 hT hf0)
  have hr := Lib.hid hr0
  clear hr0
  obtain ⟨p1, hp1⟩ : ∃ p1, p1 = p - 1 := ⟨_, rfl⟩
  have hf := Lib.hid hf0
  have e1 : (p : Int) - 1 = (p1 : Int) := by omega
  have HP1 := Lib.hid hp1
  have h11 : 1 ≤ (p1 : Int) ∧ (p1 : Int) ≤ 2305843009213693951 := by omega
  have HT := Lib.hid hT
  have hl := Lib.hid hl0
  clear hp1 hf0 hT hp0 hl0
  go_wp2_with fail
  refine (below_c (p : Int) _ (hl.out.below E0.out.bel) (by omega) hb.out).mono ?_
  rintro e w1 ⟨rfl, hb⟩
  have E1 : Hid (Env D w [] [] w1) := Lib.hid (E0.out.below hb)
  clear E0 hb
  go_wp2_with fail
  refine (Fac_some (D := D) p1 l (hl.out.below E1.out.bel) h11.1 h11.2 (by rw [HP1.out]; exact hf.out)).mono ?_
  rintro e w2 ⟨⟨ya, yk, rfl, yh⟩, hb⟩
  have E2 : Hid (Env D w [] [.rw (.slice ya l.length yk) l.length 1 (ncl l)] w2) := Lib.hid (E1.out.got (E1.out.below hb) (.rw (.slice ya l.length yk) l.length 1 (ncl l)) (Lib.hid (Rw.ge yh.out)).out)
  clear E1 hb
  go_wp2_with fail
  refine (root_c p r l (E2.out.fc 0 rfl) hp2 HT.out hg.out.2 hg.out.1 hr.out).mono ?_
  rintro e w3 ⟨rfl, hb⟩
  have E3 : Hid (Env D w [] [.rw (.slice ya l.length yk) l.length 1 (ncl l)] w3) := Lib.hid (E2.out.below hb)
  clear E2 hb
  have hfin := Lib.hid E3.out.bel
  go_wp2
  go_ret2
  exact ⟨rfl, hfin.out⟩
set_option maxRecDepth 100000 in
set_option maxHeartbeats 1000000 in
theorem Root_none {D : Nat → Prop} (p : Nat) {w : World}  (hl0 : Laid w) (hT : (p : Int) < Top) (hp0 : Pri.isP p = true) (hf0 : Pri.facN (p - 1) = none) :
    Calls Tryd.prog 51 #[.int .i64 (p : Nat)] w fun e w' => e = .returned (.tuple #[.int .i64 0, .int .i64 9]) ∧ Below w.heap.size w w' := by
  have E0 : Hid (Env D w [] [] w) := Lib.hid (Env.start D w)
  go_enter Tryd.func51, Tryd.ntmps51
  have hp2 := isP_two hp0
  have hT9 : (p : Int) ≤ 2305843009213693951 := by unfold Top at hT; omega
  have hb : Hid (belowB (p : Int) = true) := Lib.hid (belowB_of hp0 hT)
  obtain ⟨p1, hp1⟩ : ∃ p1, p1 = p - 1 := ⟨_, rfl⟩
  have hf := Lib.hid hf0
  have e1 : (p : Int) - 1 = (p1 : Int) := by omega
  have HP1 := Lib.hid hp1
  have h11 : 1 ≤ (p1 : Int) ∧ (p1 : Int) ≤ 2305843009213693951 := by omega
  have HT := Lib.hid hT
  have hl := Lib.hid hl0
  clear hp1 hf0 hT hp0 hl0
  go_wp2_with fail
  refine (below_c (p : Int) _ (hl.out.below E0.out.bel) (by omega) hb.out).mono ?_
  rintro e w1 ⟨rfl, hb⟩
  have E1 : Hid (Env D w [] [] w1) := Lib.hid (E0.out.below hb)
  clear E0 hb
  go_wp2_with fail
  refine (Fac_no (D := D) p1 (hl.out.below E1.out.bel) h11.1 h11.2 (by rw [HP1.out]; exact hf.out)).mono ?_
  rintro e w2 ⟨rfl, hb⟩
  have E2 : Hid (Env D w [] [] w2) := Lib.hid (E1.out.below hb)
  clear E1 hb
  have hfin := Lib.hid E2.out.bel
  go_wp2
  go_ret2
  exact ⟨rfl, hfin.out⟩
theorem rok_take {p r i : Nat} {l : List Nat} (hi : i < l.length) : Pri.rok p (l.take (i + 1)) r = (Pri.rok p (l.take i) r && !decide (r ^ ((p - 1) / l[i]) % p = 1)) := by
  unfold Pri.rok
  rw [List.take_succ_eq_append_getElem hi, List.all_append]
  simp only [List.all_cons, List.all_nil, Bool.and_true]
set_option maxRecDepth 100000 in
set_option maxHeartbeats 2000000 in
theorem rRoot_c {D : Nat → Prop} (p r : Nat) (l : List Nat) {xa : Option Addr} {xk : Nat} {w : World} (hx : Fct.at w D (.rw (.slice xa l.length xk) l.length 1 (ncl l))) (hp : 2 ≤ p) (hT : (p : Int) < Top) (hl0 : ∀ f ∈ l, 2 ≤ f ∧ f ≤ p - 1) (hm : l.length ≤ 1000) (hr0 : Pri.RootR p l r) :
    Calls Tryd.prog 53 #[.int .i64 (p : Nat), .slice xa l.length xk] w fun e w' => e = .returned (.int .i64 (r : Nat)) ∧ Below w.heap.size w w' := by
  have E0 : Hid (Env D w [] [.rw (.slice xa l.length xk) l.length 1 (ncl l)] w) := Lib.hid ((Env.start D w).arg (.rw (.slice xa l.length xk) l.length 1 (ncl l)) hx)
  clear hx
  go_enter Tryd.func53, Tryd.ntmps53
  have hl := Lib.hid hl0
  have hr := Lib.hid hr0
  clear hl0 hr0
  have HT := Lib.hid hT
  have hT9 : (p : Int) ≤ 2305843009213693951 := by unfold Top at hT; omega
  have HP := Lib.hid hp
  have hr1 := hr.out.1
  have hr2 := hr.out.2.1
  obtain ⟨p1, hp1⟩ : ∃ p1, p1 = p - 1 := ⟨_, rfl⟩
  have e1 : (p : Int) - 1 = (p1 : Int) := by omega
  have HP1 := Lib.hid hp1
  clear hT hp1
  go_wp2_with fail
  go_loopg [5] (p - 1) (fun gk s5 wr => ∃ (k : Nat), s5 = .int .i64 (k : Int) ∧ Hid (Env D w [] [.rw (.slice xa l.length xk) l.length 1 (ncl l)] wr) ∧ Hid (1 ≤ k ∧ k ≤ r ∧ gk = p - k))
  case atStart => exact ⟨1, rfl, Lib.hid E0.out, Lib.hid ⟨by omega, by omega, rfl⟩⟩
  case round =>
    clear E0
    obtain ⟨k, rfl, EL, HA⟩ := hrel
    obtain ⟨a1, a2, a3⟩ := HA.out
    clear HA
    go_wp2_with fail
    go_loopg [7, 6] (l.length) (fun gk s7 s6 wr => ∃ (i : Nat) (t : Bool), s7 = .int .i64 (i : Int) ∧ s6 = .bool t ∧ Hid (Env D w [] [.rw (.slice xa l.length xk) l.length 1 (ncl l)] wr) ∧ Hid ((i ≤ l.length ∧ gk = l.length - i) ∧ t = Pri.rok p (l.take i) k))
    case atStart => exact ⟨0, true, rfl, rfl, Lib.hid EL.out, Lib.hid ⟨⟨Nat.zero_le _, rfl⟩, rfl⟩⟩
    case round =>
      clear EL
      obtain ⟨i, t, rfl, rfl, EL, HA⟩ := hrel
      obtain ⟨⟨b1, b2⟩, b3⟩ := HA.out
      have HS := Lib.hid b3
      clear b3 HA
      have hi9 : (i : Int) ≤ 1000 := by omega
      by_cases hw : i = l.length
      rotate_left
      · have hi : i < l.length := by omega
        have t6 : decide ((i : Int) < (l.length : Int)) = true := decide_eq_true (by omega)
        have t7 : decide (i < l.length) = true := decide_eq_true hi
        clear hw
        obtain ⟨xab, xao, rfl⟩ := Rw.addr (EL.out.fc 0 rfl) (by omega)
        have E1 : Hid (Env D w [] [.ce xab (xao + i) (.int .i64 (l[i] : Nat)), .rw (.slice (some ⟨xab, xao, none⟩) l.length xk) l.length 1 (ncl l)] _) := Lib.hid (EL.out.elN 0 rfl rfl (i) hi)
        clear EL
        have u0 := (E1.out.fc 0 rfl).2
        obtain ⟨h91, h92⟩ := hl.out l[i] (List.getElem_mem hi)
        obtain ⟨q, hq⟩ : ∃ q, q = p1 / l[i] := ⟨_, rfl⟩
        have d2 : (p1 : Int) / ((l[i] : Nat) : Int) = (q : Int) := by rw [hq]; rfl
        have d3 : (((l[i] : Nat) : Int) == 0) = false := beq_eq_false_iff_ne.2 (by omega)
        have d4 : (l[i] == 0) = false := beq_eq_false_iff_ne.2 (by omega)
        have hq9 : (q : Int) ≤ 9223372036854775807 := by have := Nat.div_le_self p1 l[i]; omega
        obtain ⟨x, hx9⟩ : ∃ x, x = k ^ q % p := ⟨_, rfl⟩
        have PP : Hid (∀ w : World, Calls Tryd.prog 96 #[.int .i64 (k : Nat), .int .i64 (q : Nat), .int .i64 (p : Nat)] w fun e w' => e = .returned (.int .i64 (x : Nat)) ∧ Below w.heap.size w w') := Lib.hid (fun w => (refPow_c k q p w (by omega) hq9 (by omega) HT.out).mono (by rintro e w' ⟨⟨y, hy, rfl⟩, hb⟩; exact ⟨by rw [hx9, hy.out], hb.below⟩))
        have HX : Hid (Pri.rok p (l.take (i + 1)) k = (t && !decide (x = 1))) := Lib.hid (by rw [rok_take hi, ← HS.out, hx9, hq, HP1.out])
        clear hq hx9
        by_cases hx1 : x = 1
        · have t8 : ((x : Int) == 1) = true := by rw [beq_iff_eq]; omega
          have HY : Hid (false = Pri.rok p (l.take (i + 1)) k) := Lib.hid (by rw [HX.out, decide_eq_true hx1]; simp)
          clear hx1
          go_wp2_with fail
          refine (PP.out _).mono ?_
          rintro e w1 ⟨rfl, hb⟩
          have E2 : Hid (Env D w [] [.ce xab (xao + i) (.int .i64 (l[i] : Nat)), .rw (.slice (some ⟨xab, xao, none⟩) l.length xk) l.length 1 (ncl l)] w1) := Lib.hid (E1.out.below hb)
          clear u0 E1 hb
          have EZ := Lib.hid (E2.out.forget)
          go_wp2
          go_roundg (l.length - (i + 1))
          case rel => exact ⟨i + 1, false, rfl, rfl, EZ, Lib.hid ⟨⟨by omega, rfl⟩, HY.out⟩⟩
          case measure => exact by omega
        have t8 : ((x : Int) == 1) = false := by rw [beq_eq_false_iff_ne]; omega
        have HY : Hid (t = Pri.rok p (l.take (i + 1)) k) := Lib.hid (by rw [HX.out, decide_eq_false hx1]; simp)
        clear hx1
        go_wp2_with fail
        refine (PP.out _).mono ?_
        rintro e w1 ⟨rfl, hb⟩
        have E2 : Hid (Env D w [] [.ce xab (xao + i) (.int .i64 (l[i] : Nat)), .rw (.slice (some ⟨xab, xao, none⟩) l.length xk) l.length 1 (ncl l)] w1) := Lib.hid (E1.out.below hb)
        clear u0 E1 hb
        have EZ := Lib.hid (E2.out.forget)
        go_wp2
        go_roundg (l.length - (i + 1))
        case rel => exact ⟨i + 1, t, rfl, rfl, EZ, Lib.hid ⟨⟨by omega, rfl⟩, HY.out⟩⟩
        case measure => exact by omega
      have t6 : decide ((i : Int) < (l.length : Int)) = false := decide_eq_false (by omega)
      have t7 : decide (i < l.length) = false := decide_eq_false (by omega)
      have HD : Hid (t = Pri.rok p l k) := Lib.hid (by rw [HS.out, hw, List.take_length])
      clear hw
      by_cases hy : k = r
      · have e9 : t = true := by rw [HD.out, hy, hr.out.2.2.1]
        subst hy e9
        have hfin := Lib.hid EL.out.bel
        go_wp2
        go_ret
        exact ⟨rfl, hfin.out⟩
      have e9 : t = false := by rw [HD.out]; exact hr.out.2.2.2 k a1 (by omega)
      subst e9
      have hk : k < r := by omega
      clear hy
      have EZ := Lib.hid EL.out
      go_wp2
      go_roundg (p - (k + 1))
      case rel => exact ⟨k + 1, rfl, EZ, Lib.hid ⟨by omega, by omega, rfl⟩⟩
      case measure => exact by omega
end Go.Proofs.YtinlfogpbologaaDoor

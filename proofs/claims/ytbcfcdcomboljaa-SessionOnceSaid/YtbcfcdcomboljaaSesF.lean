/- session.find: the binary search. -/
import Derived.Test.YtbcfcdcomboljaaSesZp
namespace Go.Proofs.Ytbcfcdcomboljaa
open Go.RowKit
set_option linter.unusedVariables false
def cmpI (a b : Int) : Int := if a < b then -1 else if b < a then 1 else 0
theorem isNaN_c (a : Int) (w : World) : Calls Try.prog 84 #[.int .i64 a] w fun e w' => e = .returned (.bool false) ∧ w' = w := by
  go_enter Try.func84, Try.ntmps84
  go_wp2
  go_ret
  exact ⟨rfl, rfl⟩
theorem cmpInt_c (a b : Int) (w : World) : Calls Try.prog 64 #[.int .i64 a, .int .i64 b] w fun e w' => e = .returned (.int .i64 (cmpI a b)) ∧ w' = w := by
  unfold cmpI
  go_enter Try.func64, Try.ntmps64
  go_wp2_with (go_at_call 84; refine (isNaN_c _ _).mono ?_; rintro e w' ⟨rfl, rfl⟩)
  all_goals go_ret
  all_goals refine ⟨?_, rfl⟩
  all_goals simp_all
  all_goals (try omega)
theorem cmpInt_b (a b : Int) (w : World) : Calls Try.prog 64 #[.int .i64 a, .int .i64 b] w fun e w' => e = .returned (.int .i64 (cmpI a b)) ∧ Below w.heap.size w w' :=
  (cmpInt_c a b w).mono fun e w' h => ⟨h.1, by rw [h.2]; exact Below.refl _ _⟩
/-- the messages ascend by their receivers -/
def Asc (L : List Msg) : Prop := ∀ i j (hi : i < L.length) (hj : j < L.length), i < j → L[i].to_ < L[j].to_
theorem asc_of {L : List Msg} (h : UpTo L L.length) : Asc L := by
  intro i j hi hj hij
  obtain ⟨d, rfl⟩ : ∃ d, j = i + 1 + d := ⟨j - i - 1, by omega⟩
  induction d with
  | zero => exact (h (i + 1) hj hj).2 i hi rfl
  | succ d ih =>
    have h1 := ih (by omega) (by omega)
    have h2 := (h (i + 1 + (d + 1)) hj hj).2 (i + 1 + d) (by omega) (by omega)
    omega
/-- where a receiver's message is, or would stand -/
def Found (L : List Msg) (c : Int) (i : Nat) (t : Bool) : Prop := i ≤ L.length ∧ (∀ k (h : k < L.length), k < i → L[k].to_ < c) ∧ (∀ k (h : k < L.length), i ≤ k → c ≤ L[k].to_) ∧ (t = true ↔ ∃ h : i < L.length, L[i].to_ = c)
/-- a message's place and whether it is there came back -/
def RetF (L : List Msg) (c : Int) (e : Ending) : Prop := ∃ (i : Nat) (t : Bool), Hid (Found L c i t) ∧ e = .returned (.tuple #[.int .i64 (i : Int), .bool t])
theorem cmpI_neg {a b : Int} : decide (cmpI a b < 0) = decide (a < b) := by unfold cmpI; split <;> (try split) <;> simp <;> omega
theorem cmpI_zero {a b : Int} : (cmpI a b == 0) = decide (a = b) := by unfold cmpI; split <;> (try split) <;> simp <;> omega

set_option maxRecDepth 100000 in
set_option maxHeartbeats 1000000 in
theorem find1_c {D : Nat → Prop} (M : Msg) (bv : Value) (c : Int) {w : World}   :
    Calls Try.prog 78 #[.agg #[.int .i64 M.fr, .int .i64 M.to_, .int .i64 M.kd, .int .i64 M.nm, bv], .int .i64 c] w fun e w' => e = .returned (.int .i64 (cmpI M.to_ c)) ∧ Below w.heap.size w w' := by
  have E0 := Lib.hid (Env.start D w)
  go_enter Try.func78, Try.ntmps78
  go_wp2_with fail
  have E1 := Lib.hid ((E0.out.push 24 [.int .i64 M.fr, .int .i64 M.to_, .int .i64 M.kd, .int .i64 M.nm, bv] (w.heap.size) (by simp)))
  refine (cmpInt_b M.to_ c _).mono ?_
  rintro e w1 ⟨rfl, hb⟩
  have E2 := Lib.hid (E1.out.below hb)
  clear E0 E1 hb
  have hfin := Lib.hid E2.out.bel
  go_wp2
  go_ret
  exact ⟨rfl, hfin.out⟩
set_option maxRecDepth 100000 in
set_option maxHeartbeats 1000000 in
theorem bs_n {D : Nat → Prop} {da : Option Addr} {dj : Nat} (c : Int) {w : World}   :
    Calls Try.prog 77 #[.slice da 0 dj, .int .i64 c, .func (.func 78) #[] #[]] w fun e w' => RetF [] c e ∧ Below w.heap.size w w' := by
  have E0 := Lib.hid (Env.start D w)
  go_enter Try.func77, Try.ntmps77
  go_wp2_with fail
  refine wp_loop_rounds 1 ?_
  rw [rounds_succ]
  have hfin := Lib.hid E0.out.bel
  go_wp2
  go_ret2
  exact ⟨⟨0, false, Lib.hid ⟨Nat.le_refl _, by simp, by simp, by simp⟩, rfl⟩, hfin.out⟩
set_option maxRecDepth 100000 in
set_option maxHeartbeats 1000000 in
theorem bs_s {D : Nat → Prop} (dn : List Msg) {db df dj : Nat} (c : Int) {w : World} (hy : Fct.at w D (.ms (.slice (some ⟨db, df, none⟩) dn.length dj) dn)) (hs0 : Asc dn ∧ dn.length ≤ 1000000) :
    Calls Try.prog 77 #[.slice (some ⟨db, df, none⟩) dn.length dj, .int .i64 c, .func (.func 78) #[] #[]] w fun e w' => RetF dn c e ∧ Below w.heap.size w w' := by
  have E0 := Lib.hid ((Env.start D w).arg (.ms (.slice (some ⟨db, df, none⟩) dn.length dj) dn) hy)
  clear hy
  go_enter Try.func77, Try.ntmps77
  have hs := Lib.hid hs0
  clear hs0
  go_wp2_with fail
  go_loopg [9, 10, 11] (dn.length) (fun gk s9 s10 s11 wr => ∃ (lo hi : Nat) (x11 : Value), s9 = .int .i64 (lo : Int) ∧ s10 = .int .i64 (hi : Int) ∧ s11 = x11 ∧ Hid (Env D w [] [.ms (.slice (some ⟨db, df, none⟩) dn.length dj) dn] wr) ∧ Hid ((lo ≤ hi ∧ hi ≤ dn.length ∧ gk = hi - lo) ∧ (∀ k (h : k < dn.length), k < lo → dn[k].to_ < c) ∧ (∀ k (h : k < dn.length), hi ≤ k → c ≤ dn[k].to_)))
  case atStart => exact ⟨0, dn.length, _, rfl, rfl, rfl, Lib.hid E0.out, Lib.hid ⟨⟨Nat.zero_le _, Nat.le_refl _, rfl⟩, by simp, by intros; omega⟩⟩
  case round =>
    clear E0
    obtain ⟨lo, hi, x11, rfl, rfl, rfl, EL, HA⟩ := hrel
    obtain ⟨⟨a1, a2, a5⟩, a6, a7⟩ := HA.out
    have HL := Lib.hid a6
    have HH := Lib.hid a7
    clear a6 a7 HA
    have a3 := hs.out.2
    by_cases hy : lo < hi
    · have t1 : decide ((lo : Int) < (hi : Int)) = true := decide_eq_true (by omega)
      obtain ⟨m, hm, hmn⟩ : ∃ m, m = (lo + hi) / 2 ∧ (lo ≤ m ∧ m < hi) := ⟨_, rfl, by omega⟩
      have HM := Lib.hid hm
      have hmd : m < dn.length := by omega
      have w1 : IntKind.i64.wrap ((lo : Int) + (hi : Int)) = ((lo + hi : Nat) : Int) := by rw [IntKind.wrap_i64]; omega
      have w2 : IntKind.u64.wrap (((lo + hi : Nat) : Int)) = ((lo + hi : Nat) : Int) := by rw [IntKind.wrap_u64]; omega
      have ed : ((lo : Int) + (hi : Int)) / 2 = (m : Int) := by omega
      have en : (lo + hi) / 2 = m := by omega
      clear hm hmn
      obtain ⟨ua, uk, E10⟩ := EL.out.els 0 rfl (m) hmd
      have E1 : Hid (Env D w [] [.ce db (df + m * 5) (.int .i64 dn[m].fr), .ce db (df + m * 5 + 1) (.int .i64 dn[m].to_), .ce db (df + m * 5 + 2) (.int .i64 dn[m].kd), .ce db (df + m * 5 + 3) (.int .i64 dn[m].nm), .ce db (df + m * 5 + 4) (.slice ua dn[m].body.length uk), .bs (.slice ua dn[m].body.length uk) dn[m].body, .ms (.slice (some ⟨db, df, none⟩) dn.length dj) dn] _) := Lib.hid E10
      clear E10 EL
      have u0 := (E1.out.fc 0 rfl).2
      have u1 := (E1.out.fc 1 rfl).2
      have u2 := (E1.out.fc 2 rfl).2
      have u3 := (E1.out.fc 3 rfl).2
      have u4 := (E1.out.fc 4 rfl).2
      go_wp2_with fail
      refine (find1_c (D := D) dn[m] _ c).mono ?_
      rintro e w1 ⟨rfl, hb⟩
      have E2 := Lib.hid (E1.out.below hb)
      clear u0 u1 u2 u3 u4 E1 hb
      have hc := @cmpI_neg dn[m].to_ c
      by_cases hlt : dn[m].to_ < c
      · have t2 : decide (cmpI dn[m].to_ c < 0) = true := by rw [hc]; exact decide_eq_true hlt
        have HX : Hid (∀ k (h : k < dn.length), k < m + 1 → dn[k].to_ < c) := Lib.hid (by
          intro k h hk
          by_cases e : k = m
          · subst e; exact hlt
          · exact Int.lt_trans (hs.out.1 k m h hmd (by omega)) hlt)
        have ei : (m : Int) + 1 = ((m + 1 : Nat) : Int) := by omega
        have wi : IntKind.i64.wrap ((m : Int) + 1) = ((m + 1 : Nat) : Int) := by rw [IntKind.wrap_i64]; omega
        clear ei en ed
        clear hlt hc
        have EZ := Lib.hid ((((((E2.out.forget).forget).forget).forget).forget).forget)
        go_wp2
        go_roundg (hi - (m + 1))
        case rel => exact ⟨m + 1, hi, _, rfl, rfl, rfl, EZ, Lib.hid ⟨⟨by have := HM.out; omega, by have := HM.out; omega, rfl⟩, HX.out, HH.out⟩⟩
        case measure => exact by have := HM.out; omega
      · have t2 : decide (cmpI dn[m].to_ c < 0) = false := by rw [hc]; exact decide_eq_false hlt
        have HX : Hid (∀ k (h : k < dn.length), m ≤ k → c ≤ dn[k].to_) := Lib.hid (by
          intro k h hk
          by_cases e : k = m
          · subst e; omega
          · have := hs.out.1 m k hmd h (by omega); omega)
        clear hlt hc en ed
        have EZ := Lib.hid ((((((E2.out.forget).forget).forget).forget).forget).forget)
        go_wp2
        go_roundg (m - lo)
        case rel => exact ⟨lo, m, _, rfl, rfl, rfl, EZ, Lib.hid ⟨⟨by have := HM.out; omega, by have := HM.out; omega, rfl⟩, HL.out, HX.out⟩⟩
        case measure => exact by have := HM.out; omega
    · have hlh : lo = hi := by omega
      have t1 : decide ((lo : Int) < (hi : Int)) = false := decide_eq_false (by omega)
      have HHI : Hid (∀ k (h : k < dn.length), lo ≤ k → c ≤ dn[k].to_) := Lib.hid (by rw [hlh]; exact HH.out)
      have HLH := Lib.hid hlh
      clear hlh HH
      by_cases hz : lo < dn.length
      · have t3 : decide ((lo : Int) < (dn.length : Int)) = true := decide_eq_true (by omega)
        obtain ⟨ua, uk, E10⟩ := EL.out.els 0 rfl (lo) hz
        have E1 : Hid (Env D w [] [.ce db (df + lo * 5) (.int .i64 dn[lo].fr), .ce db (df + lo * 5 + 1) (.int .i64 dn[lo].to_), .ce db (df + lo * 5 + 2) (.int .i64 dn[lo].kd), .ce db (df + lo * 5 + 3) (.int .i64 dn[lo].nm), .ce db (df + lo * 5 + 4) (.slice ua dn[lo].body.length uk), .bs (.slice ua dn[lo].body.length uk) dn[lo].body, .ms (.slice (some ⟨db, df, none⟩) dn.length dj) dn] _) := Lib.hid E10
        clear E10 EL
        have u0 := (E1.out.fc 0 rfl).2
        have u1 := (E1.out.fc 1 rfl).2
        have u2 := (E1.out.fc 2 rfl).2
        have u3 := (E1.out.fc 3 rfl).2
        have u4 := (E1.out.fc 4 rfl).2
        go_wp2_with fail
        refine (find1_c (D := D) dn[lo] _ c).mono ?_
        rintro e w1 ⟨rfl, hb⟩
        have E2 := Lib.hid (E1.out.below hb)
        clear u0 u1 u2 u3 u4 E1 hb
        have hc := @cmpI_zero dn[lo].to_ c
        have hfin := Lib.hid E2.out.bel
        go_wp2
        go_ret2
        exact ⟨⟨lo, decide (dn[lo].to_ = c), Lib.hid ⟨by omega, HL.out, HHI.out, by simp [hz]⟩, rfl⟩, hfin.out⟩
      · have t3 : decide ((lo : Int) < (dn.length : Int)) = false := decide_eq_false (by omega)
        have HZ := Lib.hid hz
        clear hz
        have hfin := Lib.hid EL.out.bel
        go_wp2
        go_ret2
        exact ⟨⟨lo, false, Lib.hid ⟨by have := HLH.out; omega, HL.out, HHI.out, by simp; intro h; exact absurd h HZ.out⟩, rfl⟩, hfin.out⟩
set_option maxRecDepth 100000 in
set_option maxHeartbeats 1000000 in
theorem find_nil {D : Nat → Prop} (nx fr to_ kd nm tr : Int) (wt : Bool) (bv : Value) (dn : List Msg) {da : Option Addr} {dj : Nat} (c : Int) {w : World}   :
    Calls Try.prog 50 #[.agg #[.int .i64 nx, .bool wt, .int .i64 fr, .int .i64 to_, .int .i64 kd, .int .i64 nm, bv, .slice da 0 dj, .int .i64 tr], .int .i64 c] w fun e w' => RetF [] c e ∧ Below w.heap.size w w' := by
  have E0 := Lib.hid (Env.start D w)
  go_enter Try.func50, Try.ntmps50
  go_wp2_with fail
  have E1 := Lib.hid ((E0.out.push 27 [.int .i64 nx, .bool wt, .int .i64 fr, .int .i64 to_, .int .i64 kd, .int .i64 nm, bv, .slice da 0 dj, .int .i64 tr] (w.heap.size) (by simp)))
  refine (bs_n (D := D) c).mono ?_
  rintro e w1 ⟨⟨fi, ft, hf, rfl⟩, hb⟩
  have E2 := Lib.hid (E1.out.below hb)
  clear E0 E1 hb
  have hfin := Lib.hid E2.out.bel
  go_wp2
  go_ret2
  exact ⟨⟨fi, ft, hf, rfl⟩, hfin.out⟩
set_option maxRecDepth 100000 in
set_option maxHeartbeats 1000000 in
theorem find_some {D : Nat → Prop} (nx fr to_ kd nm tr : Int) (wt : Bool) (bv : Value) (dn : List Msg) {db df dj : Nat} (c : Int) {w : World} (hy : Fct.at w D (.ms (.slice (some ⟨db, df, none⟩) dn.length dj) dn)) (hs0 : Asc dn ∧ dn.length ≤ 1000000) :
    Calls Try.prog 50 #[.agg #[.int .i64 nx, .bool wt, .int .i64 fr, .int .i64 to_, .int .i64 kd, .int .i64 nm, bv, .slice (some ⟨db, df, none⟩) dn.length dj, .int .i64 tr], .int .i64 c] w fun e w' => RetF dn c e ∧ Below w.heap.size w w' := by
  have E0 := Lib.hid ((Env.start D w).arg (.ms (.slice (some ⟨db, df, none⟩) dn.length dj) dn) hy)
  clear hy
  go_enter Try.func50, Try.ntmps50
  have hs := Lib.hid hs0
  clear hs0
  go_wp2_with fail
  have E1 := Lib.hid ((E0.out.push 27 [.int .i64 nx, .bool wt, .int .i64 fr, .int .i64 to_, .int .i64 kd, .int .i64 nm, bv, .slice (some ⟨db, df, none⟩) dn.length dj, .int .i64 tr] (w.heap.size) (by simp)))
  refine (bs_s dn c (E1.out.fc 0 rfl) hs.out).mono ?_
  rintro e w1 ⟨⟨fi, ft, hf, rfl⟩, hb⟩
  have E2 := Lib.hid (E1.out.below hb)
  clear E0 E1 hb
  have hfin := Lib.hid E2.out.bel
  go_wp2
  go_ret2
  exact ⟨⟨fi, ft, hf, rfl⟩, hfin.out⟩
theorem find_c {S : Ses} (c : Int) {D : Nat → Prop} {bv : Value} {da : Option Addr} {dj : Nat} {w : World} (hS : SesOk S) (hy : Fct.at w D (.ms (.slice da S.dn.length dj) S.dn)) :
    Calls Try.prog 50 #[.agg #[.int .i64 S.nx, .bool S.wt, .int .i64 S.rq.fr, .int .i64 S.rq.to_, .int .i64 S.rq.kd, .int .i64 S.rq.nm, bv, .slice da S.dn.length dj, .int .i64 S.tr], .int .i64 c] w fun e w' => RetF S.dn c e ∧ Below w.heap.size w w' := by
  obtain ⟨nx, wt, ⟨fr, to_, kd, nm, body⟩, dn, tr⟩ := S
  have hA := asc_of hS.2.2.2
  have hl := hS.1.2.2
  dsimp only at *
  cases dn with
  | nil => exact find_nil (D := D) nx fr to_ kd nm tr wt bv [] c
  | cons d dn =>
    obtain ⟨b, off, j, e⟩ := Ms.open hy (by simp)
    rw [e] at hy ⊢
    exact find_some nx fr to_ kd nm tr wt bv _ c hy ⟨hA, by omega⟩
end Go.Proofs.Ytbcfcdcomboljaa

/- specieref14: Rank, pivot. -/
import Derived.Test.YtinlfogpbologaaDoorMatU
namespace Go.Proofs.YtinlfogpbologaaDoor
open Go.RowKit DivMath WordMath
set_option linter.unusedVariables false
set_option linter.unusedSimpArgs false
theorem takeP_all {α : Type} {P : α → Prop} {M : List α} {i : Nat} (hi : i < M.length) (h : ∀ x ∈ M.take i, P x) (hn : P M[i]) : ∀ x ∈ M.take (i + 1), P x := by
  intro x hx
  rw [List.take_add_one, List.getElem?_eq_getElem hi] at hx
  rcases List.mem_append.1 hx with hx | hx
  · exact h x hx
  · have e : x = M[i] := by simpa using hx
    rw [e]; exact hn
set_option maxRecDepth 100000 in
set_option maxHeartbeats 4000000 in
theorem rRank_c {D : Nat → Prop} (q n : Nat) (L : List (List Nat)) {xa : Option Addr} {xk : Nat} {w : World} (hx : Fct.at w D (.mx (.slice xa L.length xk) (L.map nl))) (hv0 : MvI q n L) :
    Calls Tryd.prog 46 #[.int .i64 (q : Nat), .slice xa L.length xk] w fun e w' => e = .returned (.int .i64 ((redN q L n).2.length : Nat)) ∧ Below w.heap.size w w' := by
  have E0 : Hid (Env D w [] [.mx (.slice xa L.length xk) (L.map nl)] w) := Lib.hid ((Env.start D w).arg (.mx (.slice xa L.length xk) (L.map nl)) hx)
  clear hx
  go_enter Tryd.func46, Tryd.ntmps46
  have hv := Lib.hid hv0
  clear hv0
  have hz : 0 < L.length := hv.out.m1
  have hzI : (0 : Int) < (L.length : Int) := by omega
  have HL0 : Hid (L[0].length = n) := Lib.hid (hv.out.res _ (List.getElem_mem hz)).1
  obtain ⟨M, P, hmp⟩ : ∃ M P, redN q L n = (M, P) := ⟨_, _, rfl⟩
  have HMP := Lib.hid hmp
  clear hmp
  have hn9 := hv.out.n30
  have HN9 := Lib.hid hn9
  clear hn9
  go_upto_region 1 with (fail)
  obtain ⟨xab, xao, rfl⟩ := Mx.addrN (E0.out.fc 0 rfl) hz
  obtain ⟨ua, uk, E10⟩ := E0.out.elMN 0 rfl (0) hz
  have E1 : Hid (Env D w [] [.ce xab (xao) (.slice ua L[0].length uk), .rw (.slice ua L[0].length uk) L[0].length 1 (ncl L[0]), .mx (.slice (some ⟨xab, xao, none⟩) L.length xk) (L.map nl)] _) := Lib.hid E10
  clear E10 E0
  have u0 := (E1.out.fc 0 rfl).2
  go_wp2_with fail
  refine (rReduce_c q n L[0].length L M P (E1.out.fc 2 rfl) hv.out.q2 hv.out.qT hv.out.res (Nat.le_of_eq HL0.out) hv.out.m1 hv.out.m30 (Nat.le_trans HN9.out (by omega)) (by rw [HL0.out]; exact HMP.out)).mono ?_
  rintro e w1 ⟨⟨ma, mk, pa, pk, rfl, mH, pH⟩, hb⟩
  have E2 : Hid (Env D w [] [.rw (.slice pa P.length pk) P.length 1 (ncl P), .mx (.slice ma M.length mk) (M.map nl), .ce xab (xao) (.slice ua L[0].length uk), .rw (.slice ua L[0].length uk) L[0].length 1 (ncl L[0]), .mx (.slice (some ⟨xab, xao, none⟩) L.length xk) (L.map nl)] w1) := Lib.hid (E1.out.got (E1.out.got (E1.out.below hb) (.mx (.slice ma M.length mk) (M.map nl)) mH.out) (.rw (.slice pa P.length pk) P.length 1 (ncl P)) pH.out)
  clear u0 E1 hb mH pH
  have hfin := Lib.hid E2.out.bel
  go_wp2
  go_ret
  exact ⟨by rw [HMP.out]; rfl, hfin.out⟩
set_option maxRecDepth 100000 in
set_option maxHeartbeats 4000000 in
theorem rpivot_c {D : Nat → Prop} (P : List Nat) (j : Nat) {xa : Option Addr} {xk : Nat} {w : World} (hx : Fct.at w D (.rw (.slice xa P.length xk) P.length 1 (ncl P))) (hm : P.length ≤ 1000) :
    Calls Tryd.prog 79 #[.slice xa P.length xk, .int .i64 (j : Nat)] w fun e w' => (∃ r : Int, e = .returned (.int .i64 r) ∧ decide (0 ≤ r) = P.contains j) ∧ Below w.heap.size w w' := by
  have E0 : Hid (Env D w [] [.rw (.slice xa P.length xk) P.length 1 (ncl P)] w) := Lib.hid ((Env.start D w).arg (.rw (.slice xa P.length xk) P.length 1 (ncl P)) hx)
  clear hx
  go_enter Tryd.func79, Tryd.ntmps79
  go_wp2_with fail
  go_loopg [5] (P.length) (fun gk s5 wr => ∃ (i : Nat), s5 = .int .i64 (i : Int) ∧ Hid (Env D w [] [.rw (.slice xa P.length xk) P.length 1 (ncl P)] wr) ∧ Hid ((i ≤ P.length ∧ gk = P.length - i) ∧ ∀ y ∈ P.take i, y ≠ j))
  case atStart => exact ⟨0, rfl, Lib.hid E0.out, Lib.hid ⟨⟨Nat.zero_le _, rfl⟩, by simp⟩⟩
  case round =>
    clear E0
    obtain ⟨i, rfl, EL, HA⟩ := hrel
    obtain ⟨⟨a1, a2⟩, a3⟩ := HA.out
    have HS := Lib.hid a3
    clear a3 HA
    by_cases hy : i = P.length
    · skip
      have t6 : decide ((i : Int) < (P.length : Int)) = false := decide_eq_false (by omega)
      have t6n : decide (i < P.length) = false := decide_eq_false (by omega)
      have HC : Hid (P.contains j = false) := Lib.hid (by have h := HS.out; rw [hy, List.take_length] at h; cases hc : P.contains j with | false => rfl | true => exact absurd rfl (h j (by simpa using hc)))
      clear hy
      have hfin := Lib.hid EL.out.bel
      go_wp2
      go_ret
      exact ⟨⟨_, rfl, by rw [HC.out]; rfl⟩, hfin.out⟩
    have hi : i < P.length := by omega
    have t6 : decide ((i : Int) < (P.length : Int)) = true := decide_eq_true (by omega)
    have t6n : decide (i < P.length) = true := decide_eq_true (by omega)
    have hiI : (i : Int) < (P.length : Int) := by omega
    clear hy
    go_upto_region 4 with (fail)
    obtain ⟨xab, xao, rfl⟩ := Rw.addr (EL.out.fc 0 rfl) (by omega)
    have E1 : Hid (Env D w [] [.ce xab (xao + i) (.int .i64 (P[i] : Nat)), .rw (.slice (some ⟨xab, xao, none⟩) P.length xk) P.length 1 (ncl P)] _) := Lib.hid (EL.out.elN 0 rfl rfl (i) hi)
    clear EL
    have p0 := (E1.out.fc 0 rfl).2
    by_cases hb : P[i] = j
    · skip
      have e1 : (((P[i] : Nat) : Int) == (j : Int)) = true := beq_iff_eq.2 (by omega)
      have e1n : (P[i] == j) = true := beq_iff_eq.2 hb
      have HC : Hid (P.contains j = true) := Lib.hid (by rw [← hb]; simp)
      clear hb
      have hfin := Lib.hid E1.out.bel
      go_wp2
      go_ret
      exact ⟨⟨_, rfl, by rw [HC.out]; exact decide_eq_true (by omega)⟩, hfin.out⟩
    have e1 : (((P[i] : Nat) : Int) == (j : Int)) = false := beq_eq_false_iff_ne.2 (by omega)
    have e1n : (P[i] == j) = false := beq_eq_false_iff_ne.2 hb
    have HN : Hid (∀ y ∈ P.take (i + 1), y ≠ j) := Lib.hid (takeP_all hi HS.out hb)
    clear hb
    have EZ := Lib.hid (E1.out.forget)
    go_wp2
    go_roundg (P.length - (i + 1))
    case rel => exact ⟨i + 1, rfl, EZ, Lib.hid ⟨⟨by omega, rfl⟩, HN.out⟩⟩
    case measure => exact by omega
end Go.Proofs.YtinlfogpbologaaDoor

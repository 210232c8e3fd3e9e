/- specieref14: Count. -/
import Derived.Test.YtinlfogpbologaaDoorMatX
namespace Go.Proofs.YtinlfogpbologaaDoor
open Go.RowKit DivMath WordMath
set_option linter.unusedVariables false
set_option linter.unusedSimpArgs false
theorem rSolve_t {D : Nat → Prop} {q n : Nat} {L M : List (List Nat)} {b P : List Nat} {xa ya : Option Addr} {xk yk : Nat} {w : World} (hx : Fct.at w D (.mx (.slice xa L.length xk) (L.map nl))) (hy : Fct.at w D (.rw (.slice ya b.length yk) b.length 1 (ncl b))) (hv : MvI q n L) (hne : b.length = L.length) (hs : ∀ c ∈ b, c < q) (hR : redN q (sysL L b) n = (M, P)) (ht : noneB n (M, P) = true) :
    Calls Tryd.prog 36 #[.int .i64 (q : Nat), .slice xa L.length xk, .slice ya b.length yk] w fun e w' => e = .returned (.tuple #[.slice none 0 0, .slice none 0 0, .bool false]) ∧ Below w.heap.size w w' := by
  refine (rSolve_c q n L M b P hx hy hv hne hs hR ht).mono fun e w' h => ⟨?_, h.2⟩
  rcases h.1 with ⟨_, h⟩ | ⟨h, _⟩
  · exact h
  · cases h
theorem rSolve_f {D : Nat → Prop} {q n : Nat} {L M : List (List Nat)} {b P : List Nat} {xa ya : Option Addr} {xk yk : Nat} {w : World} (hx : Fct.at w D (.mx (.slice xa L.length xk) (L.map nl))) (hy : Fct.at w D (.rw (.slice ya b.length yk) b.length 1 (ncl b))) (hv : MvI q n L) (hne : b.length = L.length) (hs : ∀ c ∈ b, c < q) (hR : redN q (sysL L b) n = (M, P)) (ht : noneB n (M, P) = false) :
    Calls Tryd.prog 36 #[.int .i64 (q : Nat), .slice xa L.length xk, .slice ya b.length yk] w fun e w' => (∃ ea ek pa pk, e = .returned (.tuple #[.slice ea (partV n P M P.length).length ek, .slice pa (kerL q n P M n).length pk, .bool true]) ∧ Hid (Rw w' (fun b => D b ∨ w.heap.size ≤ b) (.slice ea (partV n P M P.length).length ek) (partV n P M P.length).length 1 (ncl (partV n P M P.length))) ∧ Hid (Mx w' (fun b => D b ∨ w.heap.size ≤ b) (.slice pa (kerL q n P M n).length pk) ((kerL q n P M n).map nl))) ∧ Below w.heap.size w w' := by
  refine (rSolve_c q n L M b P hx hy hv hne hs hR ht).mono fun e w' h => ⟨?_, h.2⟩
  rcases h.1 with ⟨h, _⟩ | ⟨_, h⟩
  · cases h
  · exact h
def cntR : Option Nat → Value
  | some v => .tuple #[.int .i64 (v : Nat), .bool true]
  | none => .tuple #[.int .i64 0, .bool false]
set_option maxRecDepth 100000 in
set_option maxHeartbeats 4000000 in
theorem rCount_t {D : Nat → Prop} (q n : Nat) (L M : List (List Nat)) (b P : List Nat) {xa ya : Option Addr} {xk yk : Nat} {w : World} (hx : Fct.at w D (.mx (.slice xa L.length xk) (L.map nl))) (hy : Fct.at w D (.rw (.slice ya b.length yk) b.length 1 (ncl b))) (hv0 : MvI q n L) (hne0 : b.length = L.length) (hs00 : ∀ c ∈ b, c < q) (hR0 : redN q (sysL L b) n = (M, P)) (ht0 : noneB n (M, P) = true) :
    Calls Tryd.prog 38 #[.int .i64 (q : Nat), .slice xa L.length xk, .slice ya b.length yk] w fun e w' => e = .returned (.tuple #[.int .i64 0, .bool true]) ∧ Below w.heap.size w w' := by
  have E0 : Hid (Env D w [] [.rw (.slice ya b.length yk) b.length 1 (ncl b), .mx (.slice xa L.length xk) (L.map nl)] w) := Lib.hid (((Env.start D w).arg (.mx (.slice xa L.length xk) (L.map nl)) hx).arg (.rw (.slice ya b.length yk) b.length 1 (ncl b)) hy)
  clear hx hy
  go_enter Tryd.func38, Tryd.ntmps38
  have hsq := Lib.hid hs00
  clear hs00
  have hv := Lib.hid hv0
  have hne := Lib.hid hne0
  have hR := Lib.hid hR0
  have ht := Lib.hid ht0
  clear hv0 hne0 hR0 ht0
  go_wp2_with fail
  refine (rSolve_t (E0.out.fc 1 rfl) (E0.out.fc 0 rfl) hv.out hne.out hsq.out hR.out ht.out).mono ?_
  rintro e w1 ⟨rfl, hb⟩
  have E1 : Hid (Env D w [] [.rw (.slice ya b.length yk) b.length 1 (ncl b), .mx (.slice xa L.length xk) (L.map nl)] w1) := Lib.hid (E0.out.below hb)
  clear E0 hb
  have hfin := Lib.hid E1.out.bel
  go_wp2
  refine bodyPost_ret (results_tmp2 rfl _ _ _) rfl ?_
  exact ⟨rfl, hfin.out⟩
set_option maxRecDepth 100000 in
set_option maxHeartbeats 4000000 in
theorem rCount_f {D : Nat → Prop} (q n : Nat) (L M : List (List Nat)) (b P : List Nat) {xa ya : Option Addr} {xk yk : Nat} {w : World} (hx : Fct.at w D (.mx (.slice xa L.length xk) (L.map nl))) (hy : Fct.at w D (.rw (.slice ya b.length yk) b.length 1 (ncl b))) (hv0 : MvI q n L) (hne0 : b.length = L.length) (hs00 : ∀ c ∈ b, c < q) (hR0 : redN q (sysL L b) n = (M, P)) (ht0 : noneB n (M, P) = false) :
    Calls Tryd.prog 38 #[.int .i64 (q : Nat), .slice xa L.length xk, .slice ya b.length yk] w fun e w' => e = .returned (cntR (cntL q (n - P.length))) ∧ Below w.heap.size w w' := by
  have E0 : Hid (Env D w [] [.rw (.slice ya b.length yk) b.length 1 (ncl b), .mx (.slice xa L.length xk) (L.map nl)] w) := Lib.hid (((Env.start D w).arg (.mx (.slice xa L.length xk) (L.map nl)) hx).arg (.rw (.slice ya b.length yk) b.length 1 (ncl b)) hy)
  clear hx hy
  go_enter Tryd.func38, Tryd.ntmps38
  have hsq := Lib.hid hs00
  clear hs00
  have hv := Lib.hid hv0
  have hne := Lib.hid hne0
  have hR := Lib.hid hR0
  have ht := Lib.hid ht0
  clear hv0 hne0 hR0 ht0
  have HI := Lib.hid (SysI.of hv.out hne.out hsq.out hR.out)
  obtain ⟨K, hK⟩ : ∃ k, kerL q n P M n = k := ⟨_, rfl⟩
  have HKL : Hid (K.length = n - P.length) := Lib.hid (by rw [← hK]; exact kerL_len HI.out.nod HI.out.lt)
  have HKK := Lib.hid hK
  clear hK
  have n30 := hv.out.n30
  have hk30 : K.length ≤ 30 := by rw [HKL.out]; omega
  have HQ2 : Hid (2 ≤ q) := Lib.hid hv.out.q2
  go_wp2_with fail
  refine ((HKK.out ▸ rSolve_f (E0.out.fc 1 rfl) (E0.out.fc 0 rfl) hv.out hne.out hsq.out hR.out ht.out)).mono ?_
  rintro e w1 ⟨⟨ea, ek, pa, pk, rfl, xH, kH⟩, hb⟩
  have E1 : Hid (Env D w [] [.mx (.slice pa K.length pk) (K.map nl), .rw (.slice ea (partV n P M P.length).length ek) (partV n P M P.length).length 1 (ncl (partV n P M P.length)), .rw (.slice ya b.length yk) b.length 1 (ncl b), .mx (.slice xa L.length xk) (L.map nl)] w1) := Lib.hid (E0.out.got (E0.out.got (E0.out.below hb) (.rw (.slice ea (partV n P M P.length).length ek) (partV n P M P.length).length 1 (ncl (partV n P M P.length))) xH.out) (.mx (.slice pa K.length pk) (K.map nl)) kH.out)
  clear E0 hb xH kH
  go_wp2_with fail
  go_loopg [12, 11] (K.length) (fun gk s12 s11 wr => ∃ (k num : Nat), s12 = .int .i64 (k : Int) ∧ s11 = .int .i64 (num : Int) ∧ Hid (Env D w [] [.mx (.slice pa K.length pk) (K.map nl), .rw (.slice ea (partV n P M P.length).length ek) (partV n P M P.length).length 1 (ncl (partV n P M P.length)), .rw (.slice ya b.length yk) b.length 1 (ncl b), .mx (.slice xa L.length xk) (L.map nl)] wr) ∧ Hid ((k ≤ K.length ∧ gk = K.length - k) ∧ cntL q k = some num))
  case atStart => exact ⟨0, 1, rfl, rfl, Lib.hid E1.out, Lib.hid ⟨⟨Nat.zero_le _, rfl⟩, rfl⟩⟩
  case round =>
    clear E1
    obtain ⟨k, num, rfl, rfl, EL, HA⟩ := hrel
    obtain ⟨⟨a1, a2⟩, a3⟩ := HA.out
    have HK := Lib.hid a3
    clear a3 HA
    by_cases hy : k = K.length
    · skip
      have t6 : decide ((k : Int) < (K.length : Int)) = false := decide_eq_false (by omega)
      have t6n : decide (k < K.length) = false := decide_eq_false (by omega)
      have HD : Hid (cntL q (n - P.length) = some num) := Lib.hid (by rw [← HKL.out, ← hy]; exact HK.out)
      clear hy
      have hfin := Lib.hid EL.out.bel
      go_wp2
      refine bodyPost_ret (results_tmp2 rfl _ _ _) rfl ?_
      exact ⟨by rw [HD.out]; rfl, hfin.out⟩
    have hk : k < K.length := by omega
    have t6 : decide ((k : Int) < (K.length : Int)) = true := decide_eq_true (by omega)
    have t6n : decide (k < K.length) = true := decide_eq_true (by omega)
    clear hy
    obtain ⟨eq, heq⟩ : ∃ v, 2305843009213693951 / q = v := ⟨_, rfl⟩
    have HEQ := Lib.hid heq
    have hq2 := HQ2.out
    have w1 : ((q : Int) == 0) = false := beq_eq_false_iff_ne.2 (by omega)
    have w0q : ¬ (q = 0) := by omega
    have he9 : eq ≤ 2305843009213693951 := by rw [← heq]; exact Nat.div_le_self _ _
    have w2 : IntKind.i64.wrap ((2305843009213693951 : Int).tdiv (q : Int)) = (eq : Int) := by rw [Int.tdiv_eq_ediv_of_nonneg (by omega), show ((2305843009213693951 : Int) / (q : Int)) = (eq : Int) from by rw [← heq]; rfl, IntKind.wrap_i64]; omega
    have w3 : IntKind.i64.wrap (eq : Int) = (eq : Int) := by rw [IntKind.wrap_i64]; omega
    clear heq
    by_cases hb : num > eq
    · have t7 : decide ((eq : Int) < (num : Int)) = true := decide_eq_true (by omega)
      have t7n : decide (eq < num) = true := decide_eq_true hb
      have HB : Hid (cntL q (n - P.length) = none) := Lib.hid (cntL_big HK.out (by rw [HEQ.out]; exact hb) (by rw [← HKL.out]; exact hk))
      clear hb he9
      have hfin := Lib.hid EL.out.bel
      go_wp2
      refine bodyPost_ret (results_tmp2 rfl _ _ _) rfl ?_
      exact ⟨by rw [HB.out]; rfl, hfin.out⟩
    · have t7 : decide ((eq : Int) < (num : Int)) = false := decide_eq_false (by omega)
      have t7n : decide (eq < num) = false := decide_eq_false hb
      have HB : Hid (cntL q (k + 1) = some (num * q)) := Lib.hid (cntL_up HK.out (by rw [HEQ.out]; exact hb))
      have h1 : num * q ≤ 2305843009213693951 := Nat.le_trans (Nat.mul_le_mul_right q (Nat.le_of_not_lt hb)) (by rw [← HEQ.out]; exact Nat.div_mul_le_self _ _)
      have w4 : wrap64 ((num : Int) * (q : Int)) = ((num * q : Nat) : Int) := by rw [← Int.natCast_mul]; exact IntWalk.wrap64_in _ (by omega)
      clear hb h1 he9
      have EZ := Lib.hid EL.out
      go_wp2
      go_roundg (K.length - (k + 1))
      case rel => exact ⟨k + 1, num * q, rfl, by rw [w4], EZ, Lib.hid ⟨⟨by omega, rfl⟩, HB.out⟩⟩
      case measure => exact by omega
end Go.Proofs.YtinlfogpbologaaDoor

/- matrix: Count. -/
import Derived.Test.YtinlfogpbologaaDoorMatP
namespace Go.Proofs.YtinlfogpbologaaDoor
open Go.RowKit DivMath WordMath
set_option linter.unusedVariables false
set_option linter.unusedSimpArgs false
/-- q to the k-th, while it is at most the largest word -/
def cntL (q : Nat) : Nat → Option Nat
  | 0 => some 1
  | k + 1 => match cntL q k with
    | none => none
    | some v => if v > 2305843009213693951 / q then none else some (v * q)
theorem cntL_none {q k : Nat} (h : cntL q k = none) : ∀ d, cntL q (k + d) = none
  | 0 => h
  | d + 1 => by rw [← Nat.add_assoc, cntL, cntL_none h d]
theorem cntL_up {q k v : Nat} (h : cntL q k = some v) (hb : ¬ v > 2305843009213693951 / q) : cntL q (k + 1) = some (v * q) := by rw [cntL, h]; simp only; rw [if_neg hb]
theorem cntL_big {q k m v : Nat} (h : cntL q k = some v) (hb : v > 2305843009213693951 / q) (hk : k < m) : cntL q m = none := by
  have h1 : cntL q (k + 1) = none := by rw [cntL, h]; simp only; rw [if_pos hb]
  have := cntL_none h1 (m - (k + 1))
  rwa [show k + 1 + (m - (k + 1)) = m from by omega] at this
def cntV : Option Nat → Value
  | some v => .tuple #[.int .i64 (v : Nat), .int .i64 0]
  | none => .tuple #[.int .i64 0, .int .i64 9]
set_option maxRecDepth 100000 in
set_option maxHeartbeats 1000000 in
theorem Count_no {D : Nat → Prop} (q : Int) (M : List (List Int)) (b : List Int) {xa ya : Option Addr} {xk yk : Nat} {w : World} (hx : Fct.at w D (.mx (.slice xa M.length xk) M)) (hy : Fct.at w D (.rw (.slice ya b.length yk) b.length 1 (icl b))) (hl0 : Laid w) (hn : -9223372036854775808 ≤ q ∧ q ≤ 9223372036854775807) (hv0 : mvB q M = false) :
    Calls Tryd.prog 33 #[.int .i64 q, .slice xa M.length xk, .slice ya b.length yk] w fun e w' => e = .returned (.tuple #[.int .i64 0, .int .i64 1]) ∧ Below w.heap.size w w' := by
  have E0 : Hid (Env D w [] [.rw (.slice ya b.length yk) b.length 1 (icl b), .mx (.slice xa M.length xk) M] w) := Lib.hid (((Env.start D w).arg (.mx (.slice xa M.length xk) M) hx).arg (.rw (.slice ya b.length yk) b.length 1 (icl b)) hy)
  clear hx hy
  go_enter Tryd.func33, Tryd.ntmps33
  have hl := Lib.hid hl0
  have hv := Lib.hid hv0
  clear hl0 hv0
  go_wp2_with fail
  refine (sys_no q M b (E0.out.fc 1 rfl) (E0.out.fc 0 rfl) (hl.out.below E0.out.bel) hn hv.out).mono ?_
  rintro e w1 ⟨rfl, hb⟩
  have E1 : Hid (Env D w [] [.rw (.slice ya b.length yk) b.length 1 (icl b), .mx (.slice xa M.length xk) M] w1) := Lib.hid (E0.out.below hb)
  clear E0 hb
  have hfin := Lib.hid E1.out.bel
  go_wp2
  go_ret2
  exact ⟨rfl, hfin.out⟩
set_option maxRecDepth 100000 in
set_option maxHeartbeats 1000000 in
theorem Count_len {D : Nat → Prop} (q n : Nat) (L : List (List Nat)) (b : List Int) {xa ya : Option Addr} {xk yk : Nat} {w : World} (hx : Fct.at w D (.mx (.slice xa L.length xk) (L.map nl))) (hy : Fct.at w D (.rw (.slice ya b.length yk) b.length 1 (icl b))) (hl0 : Laid w) (hv0 : MvI q n L) (hne : ¬ b.length = L.length) :
    Calls Tryd.prog 33 #[.int .i64 (q : Nat), .slice xa L.length xk, .slice ya b.length yk] w fun e w' => e = .returned (.tuple #[.int .i64 0, .int .i64 1]) ∧ Below w.heap.size w w' := by
  have E0 : Hid (Env D w [] [.rw (.slice ya b.length yk) b.length 1 (icl b), .mx (.slice xa L.length xk) (L.map nl)] w) := Lib.hid (((Env.start D w).arg (.mx (.slice xa L.length xk) (L.map nl)) hx).arg (.rw (.slice ya b.length yk) b.length 1 (icl b)) hy)
  clear hx hy
  go_enter Tryd.func33, Tryd.ntmps33
  have hl := Lib.hid hl0
  have hv := Lib.hid hv0
  clear hl0 hv0
  have HNE := Lib.hid hne
  clear hne
  go_wp2_with fail
  refine (sys_len q n L b (E0.out.fc 1 rfl) (E0.out.fc 0 rfl) (hl.out.below E0.out.bel) hv.out HNE.out).mono ?_
  rintro e w1 ⟨rfl, hb⟩
  have E1 : Hid (Env D w [] [.rw (.slice ya b.length yk) b.length 1 (icl b), .mx (.slice xa L.length xk) (L.map nl)] w1) := Lib.hid (E0.out.below hb)
  clear E0 hb
  have hfin := Lib.hid E1.out.bel
  go_wp2
  go_ret2
  exact ⟨rfl, hfin.out⟩
set_option maxRecDepth 100000 in
set_option maxHeartbeats 1000000 in
theorem Count_rng {D : Nat → Prop} (q n : Nat) (L : List (List Nat)) (b : List Int) {xa ya : Option Addr} {xk yk : Nat} {w : World} (hx : Fct.at w D (.mx (.slice xa L.length xk) (L.map nl))) (hy : Fct.at w D (.rw (.slice ya b.length yk) b.length 1 (icl b))) (hl0 : Laid w) (hv0 : MvI q n L) (hne : b.length = L.length) (hs0 : b.all (resB (q : Int)) = false) :
    Calls Tryd.prog 33 #[.int .i64 (q : Nat), .slice xa L.length xk, .slice ya b.length yk] w fun e w' => e = .returned (.tuple #[.int .i64 0, .int .i64 2]) ∧ Below w.heap.size w w' := by
  have E0 : Hid (Env D w [] [.rw (.slice ya b.length yk) b.length 1 (icl b), .mx (.slice xa L.length xk) (L.map nl)] w) := Lib.hid (((Env.start D w).arg (.mx (.slice xa L.length xk) (L.map nl)) hx).arg (.rw (.slice ya b.length yk) b.length 1 (icl b)) hy)
  clear hx hy
  go_enter Tryd.func33, Tryd.ntmps33
  have hl := Lib.hid hl0
  have hv := Lib.hid hv0
  have hs := Lib.hid hs0
  clear hl0 hv0 hs0
  have HNE := Lib.hid hne
  clear hne
  go_wp2_with fail
  refine (sys_rng q n L b (E0.out.fc 1 rfl) (E0.out.fc 0 rfl) (hl.out.below E0.out.bel) hv.out HNE.out hs.out).mono ?_
  rintro e w1 ⟨rfl, hb⟩
  have E1 : Hid (Env D w [] [.rw (.slice ya b.length yk) b.length 1 (icl b), .mx (.slice xa L.length xk) (L.map nl)] w1) := Lib.hid (E0.out.below hb)
  clear E0 hb
  have hfin := Lib.hid E1.out.bel
  go_wp2
  go_ret2
  exact ⟨rfl, hfin.out⟩
set_option maxRecDepth 100000 in
set_option maxHeartbeats 8000000 in
theorem Count_t {D : Nat → Prop} (q n : Nat) (L M : List (List Nat)) (b P : List Nat) {xa ya : Option Addr} {xk yk : Nat} {w : World} (hx : Fct.at w D (.mx (.slice xa L.length xk) (L.map nl))) (hy : Fct.at w D (.rw (.slice ya b.length yk) b.length 1 (ncl b))) (hl0 : Laid w) (hv0 : MvI q n L) (hne0 : b.length = L.length) (hs0 : ∀ c ∈ b, c < q) (hR0 : redN q (sysL L b) n = (M, P)) (ht0 : noneB n (M, P) = true) :
    Calls Tryd.prog 33 #[.int .i64 (q : Nat), .slice xa L.length xk, .slice ya b.length yk] w fun e w' => e = .returned (.tuple #[.int .i64 0, .int .i64 0]) ∧ Below w.heap.size w w' := by
  have E0 : Hid (Env D w [] [.rw (.slice ya b.length yk) b.length 1 (ncl b), .mx (.slice xa L.length xk) (L.map nl)] w) := Lib.hid (((Env.start D w).arg (.mx (.slice xa L.length xk) (L.map nl)) hx).arg (.rw (.slice ya b.length yk) b.length 1 (ncl b)) hy)
  clear hx hy
  go_enter Tryd.func33, Tryd.ntmps33
  have hl := Lib.hid hl0
  have hv := Lib.hid hv0
  have hne := Lib.hid hne0
  have hs := Lib.hid hs0
  have hR := Lib.hid hR0
  have ht := Lib.hid ht0
  clear hl0 hv0 hne0 hs0 hR0 ht0
  have HI := Lib.hid (SysI.of hv.out hne.out hs.out hR.out)
  have m30 := hv.out.m30
  have n30 := hv.out.n30
  have hz : 0 < L.length := hv.out.m1
  have hzI : (0 : Int) < (L.length : Int) := by omega
  have HL0 : Hid (L[0].length = n) := Lib.hid (hv.out.res _ (List.getElem_mem hz)).1
  have hpm : P.length ≤ L.length := HI.out.few
  have hpn : P.length ≤ n := HI.out.fewn
  have HML : Hid (M.length = L.length) := Lib.hid HI.out.len
  go_wp2_with fail
  refine (sys_t (E0.out.fc 1 rfl) (E0.out.fc 0 rfl) (hl.out.below E0.out.bel) hv.out hne.out hs.out hR.out ht.out).mono ?_
  rintro e w1 ⟨rfl, hb⟩
  have E1 : Hid (Env D w [] [.rw (.slice ya b.length yk) b.length 1 (ncl b), .mx (.slice xa L.length xk) (L.map nl)] w1) := Lib.hid (E0.out.below hb)
  clear E0 hb
  have hfin := Lib.hid E1.out.bel
  go_wp2
  go_ret2
  exact ⟨rfl, hfin.out⟩
set_option maxRecDepth 100000 in
set_option maxHeartbeats 2000000 in
theorem Count_f {D : Nat → Prop} (q n : Nat) (L M : List (List Nat)) (b P : List Nat) {xa ya : Option Addr} {xk yk : Nat} {w : World} (hx : Fct.at w D (.mx (.slice xa L.length xk) (L.map nl))) (hy : Fct.at w D (.rw (.slice ya b.length yk) b.length 1 (ncl b))) (hl0 : Laid w) (hv0 : MvI q n L) (hne0 : b.length = L.length) (hs0 : ∀ c ∈ b, c < q) (hR0 : redN q (sysL L b) n = (M, P)) (ht0 : noneB n (M, P) = false) :
    Calls Tryd.prog 33 #[.int .i64 (q : Nat), .slice xa L.length xk, .slice ya b.length yk] w fun e w' => e = .returned (cntV (cntL q (n - P.length))) ∧ Below w.heap.size w w' := by
  have E0 : Hid (Env D w [] [.rw (.slice ya b.length yk) b.length 1 (ncl b), .mx (.slice xa L.length xk) (L.map nl)] w) := Lib.hid (((Env.start D w).arg (.mx (.slice xa L.length xk) (L.map nl)) hx).arg (.rw (.slice ya b.length yk) b.length 1 (ncl b)) hy)
  clear hx hy
  go_enter Tryd.func33, Tryd.ntmps33
  have hl := Lib.hid hl0
  have hv := Lib.hid hv0
  have hne := Lib.hid hne0
  have hs := Lib.hid hs0
  have hR := Lib.hid hR0
  have ht := Lib.hid ht0
  clear hl0 hv0 hne0 hs0 hR0 ht0
  have HI := Lib.hid (SysI.of hv.out hne.out hs.out hR.out)
  have m30 := hv.out.m30
  have n30 := hv.out.n30
  have hz : 0 < L.length := hv.out.m1
  have hzI : (0 : Int) < (L.length : Int) := by omega
  have HL0 : Hid (L[0].length = n) := Lib.hid (hv.out.res _ (List.getElem_mem hz)).1
  have hpm : P.length ≤ L.length := HI.out.few
  have hpn : P.length ≤ n := HI.out.fewn
  have HML : Hid (M.length = L.length) := Lib.hid HI.out.len
  go_wp2_with fail
  refine (sys_f (E0.out.fc 1 rfl) (E0.out.fc 0 rfl) (hl.out.below E0.out.bel) hv.out hne.out hs.out hR.out ht.out).mono ?_
  rintro e w1 ⟨⟨ea, ek, pa, pk, rfl, gH, pH⟩, hb⟩
  have E1 : Hid (Env D w [] [.rw (.slice pa P.length pk) P.length 1 (ncl P), .mx (.slice ea M.length ek) (M.map nl), .rw (.slice ya b.length yk) b.length 1 (ncl b), .mx (.slice xa L.length xk) (L.map nl)] w1) := Lib.hid (E0.out.got (E0.out.got (E0.out.below hb) (.mx (.slice ea M.length ek) (M.map nl)) gH.out) (.rw (.slice pa P.length pk) P.length 1 (ncl P)) pH.out)
  clear E0 hb gH pH
  go_upto_region 8 with (fail)
  obtain ⟨xab, xao, rfl⟩ := Mx.addrN (E1.out.fc 3 rfl) hz
  obtain ⟨ua, uk, E20⟩ := E1.out.elMN 3 rfl (0) hz
  have E2 : Hid (Env D w [] [.ce xab (xao) (.slice ua L[0].length uk), .rw (.slice ua L[0].length uk) L[0].length 1 (ncl L[0]), .rw (.slice pa P.length pk) P.length 1 (ncl P), .mx (.slice ea M.length ek) (M.map nl), .rw (.slice ya b.length yk) b.length 1 (ncl b), .mx (.slice (some ⟨xab, xao, none⟩) L.length xk) (L.map nl)] _) := Lib.hid E20
  clear E20 E1
  have u0 := (E2.out.fc 0 rfl).2
  have hw9 : wrap64 ((n : Int) - (P.length : Int)) = ((n - P.length : Nat) : Int) := by rw [IntWalk.wrap64_in _ (by omega)]; omega
  have HQ2 : Hid (2 ≤ q) := hv.out.q2 |> Lib.hid
  have hl0 := HL0.out
  go_wp2_with fail
  clear hl0
  go_loopg [33, 11] (n - P.length) (fun gk s33 s11 wr => ∃ (k num : Nat), s33 = .int .i64 (k : Int) ∧ s11 = .int .i64 (num : Int) ∧ Hid (Env D w [] [.ce xab (xao) (.slice ua L[0].length uk), .rw (.slice ua L[0].length uk) L[0].length 1 (ncl L[0]), .rw (.slice pa P.length pk) P.length 1 (ncl P), .mx (.slice ea M.length ek) (M.map nl), .rw (.slice ya b.length yk) b.length 1 (ncl b), .mx (.slice (some ⟨xab, xao, none⟩) L.length xk) (L.map nl)] wr) ∧ Hid ((k ≤ n - P.length ∧ gk = n - P.length - k) ∧ cntL q k = some num))
  case atStart => exact ⟨0, 1, rfl, rfl, Lib.hid E2.out, Lib.hid ⟨⟨Nat.zero_le _, rfl⟩, rfl⟩⟩
  case round =>
    clear u0 E2
    obtain ⟨k, num, rfl, rfl, EL, HA⟩ := hrel
    obtain ⟨⟨a1, a2⟩, a3⟩ := HA.out
    have HK := Lib.hid a3
    clear a3 HA
    by_cases hy : k = n - P.length
    · have t6 : decide ((k : Int) < (n : Int) - (P.length : Int)) = false := decide_eq_false (by omega)
      have t6n : decide (k < n - P.length) = false := decide_eq_false (by omega)
      have HD : Hid (cntL q (n - P.length) = some num) := Lib.hid (by rw [← hy]; exact HK.out)
      clear hy
      have hfin := Lib.hid EL.out.bel
      go_wp2
      go_ret2
      exact ⟨by rw [HD.out]; rfl, hfin.out⟩
    have hk : k < n - P.length := by omega
    have t6 : decide ((k : Int) < (n : Int) - (P.length : Int)) = true := decide_eq_true (by omega)
    have t6n : decide (k < n - P.length) = true := decide_eq_true (by omega)
    clear hy
    obtain ⟨eq, heq⟩ : ∃ v, 2305843009213693951 / q = v := ⟨_, rfl⟩
    have HEQ := Lib.hid heq
    have hq2 := HQ2.out
    have w1 : ((q : Int) == 0) = false := beq_eq_false_iff_ne.2 (by omega)
    have w0q : ¬ (q = 0) := by omega
    have he9 : eq ≤ 2305843009213693951 := by rw [← heq]; exact Nat.div_le_self _ _
    have w2 : IntKind.i64.wrap ((2305843009213693951 : Int).tdiv (q : Int)) = (eq : Int) := by rw [Int.tdiv_eq_ediv_of_nonneg (by omega), show ((2305843009213693951 : Int) / (q : Int)) = (eq : Int) from by rw [← heq]; rfl, IntKind.wrap_i64]; omega
    have w3 : IntKind.i64.wrap (eq : Int) = (eq : Int) := by rw [IntKind.wrap_i64]; omega
    clear heq
    by_cases hb : num > eq
    · have t7 : decide ((eq : Int) < (num : Int)) = true := decide_eq_true (by omega)
      have t7n : decide (eq < num) = true := decide_eq_true hb
      have HB : Hid (cntL q (n - P.length) = none) := Lib.hid (cntL_big HK.out (by rw [HEQ.out]; exact hb) hk)
      clear hb
      have hfin := Lib.hid EL.out.bel
      go_wp2
      go_ret2
      exact ⟨by rw [HB.out]; rfl, hfin.out⟩
    · have t7 : decide ((eq : Int) < (num : Int)) = false := decide_eq_false (by omega)
      have t7n : decide (eq < num) = false := decide_eq_false hb
      have HB : Hid (cntL q (k + 1) = some (num * q)) := Lib.hid (cntL_up HK.out (by rw [HEQ.out]; exact hb))
      have h1 : num * q ≤ 2305843009213693951 := Nat.le_trans (Nat.mul_le_mul_right q (Nat.le_of_not_lt hb)) (by rw [← HEQ.out]; exact Nat.div_mul_le_self _ _)
      have w4 : wrap64 ((num : Int) * (q : Int)) = ((num * q : Nat) : Int) := by rw [← Int.natCast_mul]; exact IntWalk.wrap64_in _ (by omega)
      clear hb h1 he9
      have EZ := Lib.hid EL.out
      go_wp2
      go_roundg (n - P.length - (k + 1))
      case rel => exact ⟨k + 1, num * q, rfl, by rw [w4], EZ, Lib.hid ⟨⟨by omega, rfl⟩, HB.out⟩⟩
      case measure => exact by omega
end Go.Proofs.YtinlfogpbologaaDoor

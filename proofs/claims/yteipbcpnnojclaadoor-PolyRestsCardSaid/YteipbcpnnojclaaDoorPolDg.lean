/- poly: the law PolyRests. -/
import Derived.Test.YteipbcpnnojclaaDoorPolDf
namespace Go.Proofs.YteipbcpnnojclaaDoor
open Go.RowKit DivMath WordMath
set_option linter.unusedVariables false
set_option linter.unusedSimpArgs false
set_option maxRecDepth 100000 in
set_option maxHeartbeats 2000000 in
theorem pr_a {D : Nat → Prop} (q : Int) (a b : List Int) {xa ya : Option Addr} {xk yk : Nat} {w : World} (hx : Fct.at w D (.rw (.slice xa a.length xk) a.length 1 (icl a))) (hy : Fct.at w D (.rw (.slice ya b.length yk) b.length 1 (icl b))) (hl0 : Laid w) (hn : -9223372036854775808 ≤ q ∧ q ≤ 9223372036854775807) (h1 : 60 < a.length) :
    Calls Tryd.prog 7 #[.int .i64 q, .slice xa a.length xk, .slice ya b.length yk] w fun e w' => e = .returned (.bool true) ∧ Below w.heap.size w w' := by
  have E0 : Hid (Env D w [] [.rw (.slice ya b.length yk) b.length 1 (icl b), .rw (.slice xa a.length xk) a.length 1 (icl a)] w) := Lib.hid (((Env.start D w).arg (.rw (.slice xa a.length xk) a.length 1 (icl a)) hx).arg (.rw (.slice ya b.length yk) b.length 1 (icl b)) hy)
  clear hx hy
  go_enter Tryd.func7, Tryd.ntmps7
  have hl := Lib.hid hl0
  clear hl0
  go_wp2_with fail
  refine (awake13_c (hl.out.below E0.out.bel)).mono ?_
  rintro e w1 ⟨rfl, hb⟩
  have E1 : Hid (Env D w [] [.rw (.slice ya b.length yk) b.length 1 (icl b), .rw (.slice xa a.length xk) a.length 1 (icl a)] w1) := Lib.hid (E0.out.below hb)
  clear E0 hb
  have d1 : decide ((60 : Int) < (a.length : Int)) = true := decide_eq_true (by omega)
  have d1n : decide (60 < a.length) = true := decide_eq_true (by omega)
  have hfin := Lib.hid E1.out.bel
  go_wp2
  go_ret
  exact ⟨rfl, hfin.out⟩
set_option maxRecDepth 100000 in
set_option maxHeartbeats 2000000 in
theorem pr_b {D : Nat → Prop} (q : Int) (a b : List Int) {xa ya : Option Addr} {xk yk : Nat} {w : World} (hx : Fct.at w D (.rw (.slice xa a.length xk) a.length 1 (icl a))) (hy : Fct.at w D (.rw (.slice ya b.length yk) b.length 1 (icl b))) (hl0 : Laid w) (hn : -9223372036854775808 ≤ q ∧ q ≤ 9223372036854775807) (h1 : a.length ≤ 60) (h2 : 60 < b.length) :
    Calls Tryd.prog 7 #[.int .i64 q, .slice xa a.length xk, .slice ya b.length yk] w fun e w' => e = .returned (.bool true) ∧ Below w.heap.size w w' := by
  have E0 : Hid (Env D w [] [.rw (.slice ya b.length yk) b.length 1 (icl b), .rw (.slice xa a.length xk) a.length 1 (icl a)] w) := Lib.hid (((Env.start D w).arg (.rw (.slice xa a.length xk) a.length 1 (icl a)) hx).arg (.rw (.slice ya b.length yk) b.length 1 (icl b)) hy)
  clear hx hy
  go_enter Tryd.func7, Tryd.ntmps7
  have hl := Lib.hid hl0
  clear hl0
  go_wp2_with fail
  refine (awake13_c (hl.out.below E0.out.bel)).mono ?_
  rintro e w1 ⟨rfl, hb⟩
  have E1 : Hid (Env D w [] [.rw (.slice ya b.length yk) b.length 1 (icl b), .rw (.slice xa a.length xk) a.length 1 (icl a)] w1) := Lib.hid (E0.out.below hb)
  clear E0 hb
  have d1 : decide ((60 : Int) < (a.length : Int)) = false := decide_eq_false (by omega)
  have d1n : decide (60 < a.length) = false := decide_eq_false (by omega)
  have d2 : decide ((60 : Int) < (b.length : Int)) = true := decide_eq_true (by omega)
  have d2n : decide (60 < b.length) = true := decide_eq_true (by omega)
  have hfin := Lib.hid E1.out.bel
  go_wp2
  go_ret
  exact ⟨rfl, hfin.out⟩
set_option maxRecDepth 100000 in
set_option maxHeartbeats 2000000 in
theorem pr_c {D : Nat → Prop} (q : Int) (a b : List Int) {xa ya : Option Addr} {xk yk : Nat} {w : World} (hx : Fct.at w D (.rw (.slice xa a.length xk) a.length 1 (icl a))) (hy : Fct.at w D (.rw (.slice ya b.length yk) b.length 1 (icl b))) (hl0 : Laid w) (hn : -9223372036854775808 ≤ q ∧ q ≤ 9223372036854775807) (h1 : a.length ≤ 60) (h2 : b.length ≤ 60) (hv0 : validB q [a, b] = false) :
    Calls Tryd.prog 7 #[.int .i64 q, .slice xa a.length xk, .slice ya b.length yk] w fun e w' => e = .returned (.bool true) ∧ Below w.heap.size w w' := by
  have E0 : Hid (Env D w [] [.rw (.slice ya b.length yk) b.length 1 (icl b), .rw (.slice xa a.length xk) a.length 1 (icl a)] w) := Lib.hid (((Env.start D w).arg (.rw (.slice xa a.length xk) a.length 1 (icl a)) hx).arg (.rw (.slice ya b.length yk) b.length 1 (icl b)) hy)
  clear hx hy
  go_enter Tryd.func7, Tryd.ntmps7
  have hl := Lib.hid hl0
  have hv := Lib.hid hv0
  clear hl0 hv0
  go_wp2_with fail
  refine (awake13_c (hl.out.below E0.out.bel)).mono ?_
  rintro e w1 ⟨rfl, hb⟩
  have E1 : Hid (Env D w [] [.rw (.slice ya b.length yk) b.length 1 (icl b), .rw (.slice xa a.length xk) a.length 1 (icl a)] w1) := Lib.hid (E0.out.below hb)
  clear E0 hb
  have d1 : decide ((60 : Int) < (a.length : Int)) = false := decide_eq_false (by omega)
  have d1n : decide (60 < a.length) = false := decide_eq_false (by omega)
  have d2 : decide ((60 : Int) < (b.length : Int)) = false := decide_eq_false (by omega)
  have d2n : decide (60 < b.length) = false := decide_eq_false (by omega)
  go_wp2_with fail
  refine (PDiv_no q a b (E1.out.fc 1 rfl) (E1.out.fc 0 rfl) (hl.out.below E1.out.bel) hn hv.out).mono ?_
  rintro e w2 ⟨rfl, hb⟩
  have E2 : Hid (Env D w [] [.rw (.slice ya b.length yk) b.length 1 (icl b), .rw (.slice xa a.length xk) a.length 1 (icl a)] w2) := Lib.hid (E1.out.below hb)
  clear E1 hb
  have hfin := Lib.hid E2.out.bel
  go_wp2
  go_ret
  exact ⟨rfl, hfin.out⟩
set_option maxRecDepth 100000 in
set_option maxHeartbeats 2000000 in
theorem pr_z {D : Nat → Prop} (q : Int) (a b : List Int) {xa ya : Option Addr} {xk yk : Nat} {w : World} (hx : Fct.at w D (.rw (.slice xa a.length xk) a.length 1 (icl a))) (hy : Fct.at w D (.rw (.slice ya b.length yk) b.length 1 (icl b))) (hl0 : Laid w) (hn : -9223372036854775808 ≤ q ∧ q ≤ 9223372036854775807) (h1 : a.length ≤ 60) (h2 : b.length = 0) (hv0 : validB q [a, b] = true) :
    Calls Tryd.prog 7 #[.int .i64 q, .slice xa a.length xk, .slice ya b.length yk] w fun e w' => e = .returned (.bool true) ∧ Below w.heap.size w w' := by
  have E0 : Hid (Env D w [] [.rw (.slice ya b.length yk) b.length 1 (icl b), .rw (.slice xa a.length xk) a.length 1 (icl a)] w) := Lib.hid (((Env.start D w).arg (.rw (.slice xa a.length xk) a.length 1 (icl a)) hx).arg (.rw (.slice ya b.length yk) b.length 1 (icl b)) hy)
  clear hx hy
  go_enter Tryd.func7, Tryd.ntmps7
  have hl := Lib.hid hl0
  have hv := Lib.hid hv0
  clear hl0 hv0
  go_wp2_with fail
  refine (awake13_c (hl.out.below E0.out.bel)).mono ?_
  rintro e w1 ⟨rfl, hb⟩
  have E1 : Hid (Env D w [] [.rw (.slice ya b.length yk) b.length 1 (icl b), .rw (.slice xa a.length xk) a.length 1 (icl a)] w1) := Lib.hid (E0.out.below hb)
  clear E0 hb
  have d1 : decide ((60 : Int) < (a.length : Int)) = false := decide_eq_false (by omega)
  have d1n : decide (60 < a.length) = false := decide_eq_false (by omega)
  have d2 : decide ((60 : Int) < (b.length : Int)) = false := decide_eq_false (by omega)
  have d2n : decide (60 < b.length) = false := decide_eq_false (by omega)
  have H2 := Lib.hid h2
  clear h2
  go_wp2_with fail
  refine (PDiv_zero q a b (E1.out.fc 1 rfl) (E1.out.fc 0 rfl) (hl.out.below E1.out.bel) hn hv.out H2.out).mono ?_
  rintro e w2 ⟨rfl, hb⟩
  have E2 : Hid (Env D w [] [.rw (.slice ya b.length yk) b.length 1 (icl b), .rw (.slice xa a.length xk) a.length 1 (icl a)] w2) := Lib.hid (E1.out.below hb)
  clear E1 hb
  have hfin := Lib.hid E2.out.bel
  go_wp2
  go_ret
  exact ⟨rfl, hfin.out⟩
theorem PMul_p {D : Nat → Prop} (q : Nat) (a b p : List Nat) {xa ya : Option Addr} {xk yk : Nat} {w : World} (hx : Fct.at w D (.rw (.slice xa a.length xk) a.length 1 (ncl a))) (hy : Fct.at w D (.rw (.slice ya b.length yk) b.length 1 (ncl b))) (hl : Laid w) (hv : validB q [nl a, nl b] = true) (hq : 0 < q) (hqT : (q : Int) < Top) (ha : ∀ c ∈ a, c < q) (hb : ∀ c ∈ b, c < q) (hla : a.length ≤ 1000) (hlb : b.length ≤ 1000) (hz3 : a.length + b.length ≤ 1000) (hp : trimN (mulL q a b) = p) :
    Calls Tryd.prog 29 #[.int .i64 (q : Nat), .slice xa a.length xk, .slice ya b.length yk] w fun e w' => RetIE (fun b => w.heap.size ≤ b) p 0 e w' ∧ Below w.heap.size w w' := by
  subst hp; exact PMul_ok q a b hx hy hl hv hq hqT ha hb hla hlb hz3
theorem PAdd_p {D : Nat → Prop} (q : Nat) (a b p : List Nat) {xa ya : Option Addr} {xk yk : Nat} {w : World} (hx : Fct.at w D (.rw (.slice xa a.length xk) a.length 1 (ncl a))) (hy : Fct.at w D (.rw (.slice ya b.length yk) b.length 1 (ncl b))) (hl : Laid w) (hv : validB q [nl a, nl b] = true) (hq : 0 < q) (hqT : (q : Int) < Top) (ha : ∀ c ∈ a, c < q) (hb : ∀ c ∈ b, c < q) (hla : a.length ≤ 1000) (hlb : b.length ≤ 1000) (hp : trimN (addL q a b) = p) :
    Calls Tryd.prog 30 #[.int .i64 (q : Nat), .slice xa a.length xk, .slice ya b.length yk] w fun e w' => RetIE (fun b => w.heap.size ≤ b) p 0 e w' ∧ Below w.heap.size w w' := by
  subst hp; exact PAdd_ok q a b hx hy hl hv hq hqT ha hb hla hlb
set_option maxRecDepth 100000 in
set_option maxHeartbeats 2000000 in
theorem pr_f {D : Nat → Prop} (q : Nat) (a b : List Nat) {xa ya : Option Addr} {xk yk : Nat} {w : World} (hx : Fct.at w D (.rw (.slice xa a.length xk) a.length 1 (ncl a))) (hy : Fct.at w D (.rw (.slice ya b.length yk) b.length 1 (ncl b))) (hDD0 : ∀ b, D b) (hl0 : Laid w) (hq1 : 1 < q) (hqT : (q : Int) < Top) (h1 : a.length ≤ 60) (h2 : b.length ≤ 60) (hz : 0 < b.length) (hf0 : fieldB q = true) (ha0 : ∀ c ∈ a, c < q) (hb0 : ∀ c ∈ b, c < q) (hpa0 : polyB (q : Int) (nl a) = true) (hpb0 : polyB (q : Int) (nl b) = true) (hg0 : Nat.gcd (b.getD (b.length - 1) 0) q = 1) (lead : Nat) (hlq0 : lead < q) (hle0 : b.getD (b.length - 1) 0 * lead % q = 1 % q) :
    Calls Tryd.prog 7 #[.int .i64 (q : Nat), .slice xa a.length xk, .slice ya b.length yk] w fun e w' => e = .returned (.bool true) ∧ Below w.heap.size w w' := by
  have E0 : Hid (Env D w [] [.rw (.slice ya b.length yk) b.length 1 (ncl b), .rw (.slice xa a.length xk) a.length 1 (ncl a)] w) := Lib.hid (((Env.start D w).arg (.rw (.slice xa a.length xk) a.length 1 (ncl a)) hx).arg (.rw (.slice ya b.length yk) b.length 1 (ncl b)) hy)
  clear hx hy
  go_enter Tryd.func7, Tryd.ntmps7
  have hn : -9223372036854775808 ≤ (q : Int) ∧ (q : Int) ≤ 9223372036854775807 := by unfold Top at hqT; omega
  have HT := Lib.hid hqT
  clear hqT
  have hDD := Lib.hid hDD0
  have hl := Lib.hid hl0
  have hf := Lib.hid hf0
  have ha := Lib.hid ha0
  have hb := Lib.hid hb0
  have hpa := Lib.hid hpa0
  have hpb := Lib.hid hpb0
  have hg := Lib.hid hg0
  have hlq := Lib.hid hlq0
  have hle := Lib.hid hle0
  clear hDD0 hl0 hf0 ha0 hb0 hpa0 hpb0 hg0 hlq0 hle0
  have HV : Hid (validB (q : Int) [nl a, nl b] = true) := Lib.hid (by rw [valid2, hf.out, hpa.out, hpb.out]; rfl)
  have HQ : Hid (0 < q) := Lib.hid (by omega)
  have HDL := Lib.hid (divL_lt HQ.out b lead (a.length + 1 - b.length) a (List.replicate (a.length + 1 - b.length) 0) ha.out (fun c hc => by rw [(List.mem_replicate.1 hc).2]; omega))
  obtain ⟨x, hX⟩ : ∃ x, trimN (divL q b lead (a.length + 1 - b.length) a (List.replicate (a.length + 1 - b.length) 0)).2 = x := ⟨_, rfl⟩
  obtain ⟨y, hY⟩ : ∃ y, trimN (divL q b lead (a.length + 1 - b.length) a (List.replicate (a.length + 1 - b.length) 0)).1 = y := ⟨_, rfl⟩
  have HX := Lib.hid hX
  have HY := Lib.hid hY
  clear hX hY
  have HXL : Hid (x.length ≤ 61) := Lib.hid (by rw [← HX.out]; refine Nat.le_trans (trimN_len _) ?_; rw [(divL_len _ _ _ _ _ _).2]; simp; omega)
  have HXQ : Hid (∀ c ∈ x, c < q) := Lib.hid (by rw [← HX.out]; exact trimN_lt HDL.out.2)
  have HYQ : Hid (∀ c ∈ y, c < q) := Lib.hid (by rw [← HY.out]; exact trimN_lt HDL.out.1)
  have HXP : Hid (polyB (q : Int) (nl x) = true) := Lib.hid (by rw [← HX.out]; exact poly_trim (by rw [(divL_len _ _ _ _ _ _).2]; simp; omega) HDL.out.2)
  have HYP : Hid (polyB (q : Int) (nl y) = true) := Lib.hid (by rw [← HY.out]; exact poly_trim (by rw [(divL_len _ _ _ _ _ _).1]; omega) HDL.out.1)
  have HBK := Lib.hid (div_back hq1 ha.out (polyB_lastD hpa.out) hz hle.out HX.out HY.out)
  have HYB : Hid (y.length < b.length) := Lib.hid HBK.out.2
  have hyb : y.length < b.length := HYB.out
  obtain ⟨p, hP⟩ : ∃ p, trimN (mulL q b x) = p := ⟨_, rfl⟩
  have HP := Lib.hid hP
  clear hP
  have HML : Hid ((mulL q b x).length ≤ 1000) := Lib.hid (Nat.le_trans (mulL_le _ _ _) (by have := HXL.out; omega))
  have HPP : Hid (polyB (q : Int) (nl p) = true) := Lib.hid (by rw [← HP.out]; exact poly_trim HML.out (mulL_lt HQ.out _ _))
  have HPQ : Hid (∀ c ∈ p, c < q) := Lib.hid (by rw [← HP.out]; exact trimN_lt (mulL_lt HQ.out _ _))
  have HPL : Hid (p.length ≤ 1000) := Lib.hid (by rw [← HP.out]; exact Nat.le_trans (trimN_len _) HML.out)
  have HBA : Hid (trimN (addL q p y) = a) := Lib.hid (by rw [← HP.out]; exact HBK.out.1)
  have HVX : Hid (validB (q : Int) [nl b, nl x] = true) := Lib.hid (by rw [valid2, hf.out, hpb.out, HXP.out]; rfl)
  have HVY : Hid (validB (q : Int) [nl p, nl y] = true) := Lib.hid (by rw [valid2, hf.out, HPP.out, HYP.out]; rfl)
  go_wp2_with fail
  refine (awake13_c (hl.out.below E0.out.bel)).mono ?_
  rintro e w1 ⟨rfl, hb⟩
  have E1 : Hid (Env D w [] [.rw (.slice ya b.length yk) b.length 1 (ncl b), .rw (.slice xa a.length xk) a.length 1 (ncl a)] w1) := Lib.hid (E0.out.below hb)
  clear E0 hb
  have d1 : decide ((60 : Int) < (a.length : Int)) = false := decide_eq_false (by omega)
  have d1n : decide (60 < a.length) = false := decide_eq_false (by omega)
  have d2 : decide ((60 : Int) < (b.length : Int)) = false := decide_eq_false (by omega)
  have d2n : decide (60 < b.length) = false := decide_eq_false (by omega)
  go_wp2_with fail
  refine (PDiv_xy q a b x y (E1.out.fc 1 rfl) (E1.out.fc 0 rfl) (hl.out.below E1.out.bel) HV.out hq1 HT.out ha.out hb.out (by omega) (by omega) hz hg.out lead hlq.out hle.out HX.out HY.out).mono ?_
  rintro e w2 ⟨⟨xxa, xxk, yya, yyk, rfl, xh, yh⟩, hb⟩
  have E2 : Hid (Env D w [] [.rw (.slice yya y.length yyk) y.length 1 (ncl y), .rw (.slice xxa x.length xxk) x.length 1 (ncl x), .rw (.slice ya b.length yk) b.length 1 (ncl b), .rw (.slice xa a.length xk) a.length 1 (ncl a)] w2) := Lib.hid (E1.out.got (E1.out.got (E1.out.below hb) (.rw (.slice xxa x.length xxk) x.length 1 (ncl x)) (Lib.hid (Rw.up hDD.out xh.out)).out) (.rw (.slice yya y.length yyk) y.length 1 (ncl y)) (Lib.hid (Rw.up hDD.out yh.out)).out)
  clear E1 hb
  go_wp2_with fail
  refine (PMul_p q b x p (E2.out.fc 2 rfl) (E2.out.fc 1 rfl) (hl.out.below E2.out.bel) HVX.out HQ.out HT.out hb.out HXQ.out (by omega) (by have := HXL.out; omega) (by have := HXL.out; omega) HP.out).mono ?_
  rintro e w3 ⟨⟨ma, mk, rfl, mh⟩, hb⟩
  have E3 : Hid (Env D w [] [.rw (.slice ma (p).length mk) (p).length 1 (ncl (p)), .rw (.slice yya y.length yyk) y.length 1 (ncl y), .rw (.slice xxa x.length xxk) x.length 1 (ncl x), .rw (.slice ya b.length yk) b.length 1 (ncl b), .rw (.slice xa a.length xk) a.length 1 (ncl a)] w3) := Lib.hid (E2.out.got (E2.out.below hb) (.rw (.slice ma (p).length mk) (p).length 1 (ncl (p))) (Lib.hid (Rw.ge mh.out)).out)
  clear E2 hb
  go_wp2_with fail
  refine (PAdd_p q p y a (E3.out.fc 0 rfl) (E3.out.fc 1 rfl) (hl.out.below E3.out.bel) HVY.out HQ.out HT.out HPQ.out HYQ.out HPL.out (by have := HYB.out; omega) HBA.out).mono ?_
  rintro e w4 ⟨⟨sa, sk, rfl, sh⟩, hb⟩
  have E4 : Hid (Env D w [] [.rw (.slice sa (a).length sk) (a).length 1 (ncl (a)), .rw (.slice ma (p).length mk) (p).length 1 (ncl (p)), .rw (.slice yya y.length yyk) y.length 1 (ncl y), .rw (.slice xxa x.length xxk) x.length 1 (ncl x), .rw (.slice ya b.length yk) b.length 1 (ncl b), .rw (.slice xa a.length xk) a.length 1 (ncl a)] w4) := Lib.hid (E3.out.got (E3.out.below hb) (.rw (.slice sa (a).length sk) (a).length 1 (ncl (a))) (Lib.hid (Rw.ge sh.out)).out)
  clear E3 hb
  have g1 : decide ((y.length : Int) ≥ (b.length : Int)) = false := decide_eq_false (by omega)
  have g2 : decide ((b.length : Int) ≤ (y.length : Int)) = false := decide_eq_false (by omega)
  have g3 : decide (b.length ≤ y.length) = false := decide_eq_false (by omega)
  go_wp2_with fail
  refine (equalN_c (t := true) (a := a) (b := a) (E4.out.fc 0 rfl) (E4.out.fc 5 rfl) (by omega) (by omega) (by simp)).mono ?_
  rintro e w5 ⟨rfl, hb⟩
  have E5 : Hid (Env D w [] [.rw (.slice sa (a).length sk) (a).length 1 (ncl (a)), .rw (.slice ma (p).length mk) (p).length 1 (ncl (p)), .rw (.slice yya y.length yyk) y.length 1 (ncl y), .rw (.slice xxa x.length xxk) x.length 1 (ncl x), .rw (.slice ya b.length yk) b.length 1 (ncl b), .rw (.slice xa a.length xk) a.length 1 (ncl a)] w5) := Lib.hid (E4.out.below hb)
  clear E4 hb
  have hfin := Lib.hid E5.out.bel
  go_wp2
  go_ret
  exact ⟨rfl, hfin.out⟩
theorem PolyRests_walk {D : Nat → Prop} (q : Int) (a b : List Int) {xa ya : Option Addr} {xk yk : Nat} {w : World} (hx : Fct.at w D (.rw (.slice xa a.length xk) a.length 1 (icl a))) (hy : Fct.at w D (.rw (.slice ya b.length yk) b.length 1 (icl b))) (hl : Laid w) (hn : -9223372036854775808 ≤ q ∧ q ≤ 9223372036854775807) :
    Calls Tryd.prog 7 #[.int .i64 q, .slice xa a.length xk, .slice ya b.length yk] w fun e w' => e = .returned (.bool true) ∧ Below w.heap.size w w' := by
  by_cases h1 : 60 < a.length
  · exact pr_a q a b hx hy hl hn h1
  by_cases h2 : 60 < b.length
  · exact pr_b q a b hx hy hl hn (by omega) h2
  have g1 : a.length ≤ 60 := by omega
  have g2 : b.length ≤ 60 := by omega
  cases hv : validB q [a, b] with
  | false => exact pr_c q a b hx hy hl hn g1 g2 hv
  | true =>
    by_cases hz : b.length = 0
    · exact pr_z q a b hx hy hl hn g1 hz hv
    rw [valid2] at hv
    simp only [Bool.and_eq_true] at hv
    obtain ⟨hf, ha, hb⟩ := hv
    obtain ⟨n, rfl, hn2, hT⟩ := fieldB_pos hf
    obtain ⟨m, rfl, hm⟩ := all_nl (poly_res ha)
    obtain ⟨k, rfl, hk⟩ := all_nl (poly_res hb)
    have hx' := Rw.tr hx
    have hy' := Rw.tr hy
    rw [nl_len] at g1 g2 hx' ⊢
    rw [nl_len] at hy' hz ⊢
    have hk2 : ∀ c ∈ k, c < n := fun c hc => Int.ofNat_lt.1 (hk c hc)
    obtain ⟨hg, ld, hl1, hl2⟩ := lead_ex (field_prime hf) hk2 (by omega) (polyB_lastD hb)
    exact pr_f (D := fun _ => True) n m k hx' hy' (fun _ => trivial) hl (by omega) hT g1 g2 (by omega) hf (fun c hc => Int.ofNat_lt.1 (hm c hc)) hk2 ha hb hg ld hl1 hl2
end Go.Proofs.YteipbcpnnojclaaDoor

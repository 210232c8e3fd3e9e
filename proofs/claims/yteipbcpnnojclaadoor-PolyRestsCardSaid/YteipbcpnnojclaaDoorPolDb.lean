/- poly: Div. -/
import Derived.Test.YteipbcpnnojclaaDoorPolDa
namespace Go.Proofs.YteipbcpnnojclaaDoor
open Go.RowKit DivMath WordMath
set_option linter.unusedVariables false
set_option linter.unusedSimpArgs false
/-- two rows of residues and a code -/
def RetDV (x y : List Nat) (e : Ending) (W : World) : Prop := ∃ xa xk ya yk, e = .returned (.tuple #[.slice xa x.length xk, .slice ya y.length yk, .int .i64 0]) ∧ Hid (Rw W (fun _ => True) (.slice xa x.length xk) x.length 1 (ncl x)) ∧ Hid (Rw W (fun _ => True) (.slice ya y.length yk) y.length 1 (ncl y))
set_option maxRecDepth 100000 in
set_option maxHeartbeats 1000000 in
theorem PDiv_no {D : Nat → Prop} (q : Int) (a b : List Int) {xa ya : Option Addr} {xk yk : Nat} {w : World} (hx : Fct.at w D (.rw (.slice xa a.length xk) a.length 1 (icl a))) (hy : Fct.at w D (.rw (.slice ya b.length yk) b.length 1 (icl b))) (hl0 : Laid w) (hn : -9223372036854775808 ≤ q ∧ q ≤ 9223372036854775807) (hv0 : validB q [a, b] = false) :
    Calls Tryd.prog 26 #[.int .i64 q, .slice xa a.length xk, .slice ya b.length yk] w fun e w' => e = .returned (.tuple #[.slice none 0 0, .slice none 0 0, .int .i64 1]) ∧ Below w.heap.size w w' := by
  have E0 : Hid (Env D w [] [.rw (.slice ya b.length yk) b.length 1 (icl b), .rw (.slice xa a.length xk) a.length 1 (icl a)] w) := Lib.hid (((Env.start D w).arg (.rw (.slice xa a.length xk) a.length 1 (icl a)) hx).arg (.rw (.slice ya b.length yk) b.length 1 (icl b)) hy)
  clear hx hy
  go_enter Tryd.func26, Tryd.ntmps26
  have hl := Lib.hid hl0
  have hv := Lib.hid hv0
  clear hl0 hv0
  have E1 : Hid (Env D w [(w.heap.size, 22, [.slice xa a.length xk, .slice ya b.length yk])] [.rw (.slice ya b.length yk) b.length 1 (icl b), .rw (.slice xa a.length xk) a.length 1 (icl a)] _) := Lib.hid ((E0.out.push 22 [.slice xa a.length xk, .slice ya b.length yk] (w.heap.size) (by simp)))
  go_wp2_with fail
  refine (valid_c q [a, b] (Mx.box2 (E1.out.bx 0 rfl) (E1.out.fc 1 rfl) (E1.out.fc 0 rfl)) (hl.out.below E1.out.bel) hn hv.out (by simp)).mono ?_
  rintro e w1 ⟨rfl, hb⟩
  have E2 : Hid (Env D w [(w.heap.size, 22, [.slice xa a.length xk, .slice ya b.length yk])] [.rw (.slice ya b.length yk) b.length 1 (icl b), .rw (.slice xa a.length xk) a.length 1 (icl a)] w1) := Lib.hid (E1.out.below hb)
  clear E0 E1 hb
  have hfin := Lib.hid E2.out.bel
  go_wp2
  refine bodyPost_ret (results_tmp3 rfl _ _ _) rfl ?_
  exact ⟨rfl, hfin.out⟩
set_option maxRecDepth 100000 in
set_option maxHeartbeats 1000000 in
theorem PDiv_zero {D : Nat → Prop} (q : Int) (a b : List Int) {xa ya : Option Addr} {xk yk : Nat} {w : World} (hx : Fct.at w D (.rw (.slice xa a.length xk) a.length 1 (icl a))) (hy : Fct.at w D (.rw (.slice ya b.length yk) b.length 1 (icl b))) (hl0 : Laid w) (hn : -9223372036854775808 ≤ q ∧ q ≤ 9223372036854775807) (hv0 : validB q [a, b] = true) (hz : b.length = 0) :
    Calls Tryd.prog 26 #[.int .i64 q, .slice xa a.length xk, .slice ya b.length yk] w fun e w' => e = .returned (.tuple #[.slice none 0 0, .slice none 0 0, .int .i64 10]) ∧ Below w.heap.size w w' := by
  have E0 : Hid (Env D w [] [.rw (.slice ya b.length yk) b.length 1 (icl b), .rw (.slice xa a.length xk) a.length 1 (icl a)] w) := Lib.hid (((Env.start D w).arg (.rw (.slice xa a.length xk) a.length 1 (icl a)) hx).arg (.rw (.slice ya b.length yk) b.length 1 (icl b)) hy)
  clear hx hy
  go_enter Tryd.func26, Tryd.ntmps26
  have d1 : ((b.length : Int) == 0) = true := beq_iff_eq.2 (by omega)
  have d1n : (b.length == 0) = true := beq_iff_eq.2 hz
  have HZ := Lib.hid hz
  clear hz
  have hl := Lib.hid hl0
  have hv := Lib.hid hv0
  clear hl0 hv0
  have E1 : Hid (Env D w [(w.heap.size, 22, [.slice xa a.length xk, .slice ya b.length yk])] [.rw (.slice ya b.length yk) b.length 1 (icl b), .rw (.slice xa a.length xk) a.length 1 (icl a)] _) := Lib.hid ((E0.out.push 22 [.slice xa a.length xk, .slice ya b.length yk] (w.heap.size) (by simp)))
  go_wp2_with fail
  refine (valid_c q [a, b] (Mx.box2 (E1.out.bx 0 rfl) (E1.out.fc 1 rfl) (E1.out.fc 0 rfl)) (hl.out.below E1.out.bel) hn hv.out (by simp)).mono ?_
  rintro e w1 ⟨rfl, hb⟩
  have E2 : Hid (Env D w [(w.heap.size, 22, [.slice xa a.length xk, .slice ya b.length yk])] [.rw (.slice ya b.length yk) b.length 1 (icl b), .rw (.slice xa a.length xk) a.length 1 (icl a)] w1) := Lib.hid (E1.out.below hb)
  clear E0 E1 hb
  have hfin := Lib.hid E2.out.bel
  go_wp2
  refine bodyPost_ret (results_tmp3 rfl _ _ _) rfl ?_
  exact ⟨rfl, hfin.out⟩
theorem trim_at {l : List Nat} {n : Nat} (hl : l.length = n) {xa : Option Addr} {xk : Nat} {w : World} (hx : Rw w (fun _ => True) (.slice xa l.length xk) l.length 1 (ncl l)) (hm : n ≤ 1000000) :
    Calls Tryd.prog 74 #[.slice xa n xk] w fun e w' => RetI (fun b => w.heap.size ≤ b) (trimN l) e w' ∧ Below w.heap.size w w' := by
  subst hl; exact trim_c (D := fun _ => True) l hx hm
theorem inv_uniq {q x r s : Nat} (hr : r < q) (hs : s < q) (h1 : x * r % q = 1 % q) (h2 : x * s % q = 1 % q) : r = s := by
  have : r * (x * s) % q = s * (x * r) % q := by congr 1; grind
  rw [Nat.mul_mod, h2, Nat.mul_mod s, h1, ← Nat.mul_mod, ← Nat.mul_mod, Nat.mul_one, Nat.mul_one, Nat.mod_eq_of_lt hr, Nat.mod_eq_of_lt hs] at this
  exact this
set_option maxRecDepth 100000 in
set_option maxHeartbeats 4000000 in
theorem PDiv_a {D : Nat → Prop} (q : Nat) (a b : List Nat) {xa ya : Option Addr} {xk yk : Nat} {w : World} (hx : Fct.at w D (.rw (.slice xa a.length xk) a.length 1 (ncl a))) (hy : Fct.at w D (.rw (.slice ya b.length yk) b.length 1 (ncl b))) (hl0 : Laid w) (hv0 : validB (q : Int) [nl a, nl b] = true) (hq1 : 1 < q) (hqT : (q : Int) < Top) (ha0 : ∀ c ∈ a, c < q) (hb0 : ∀ c ∈ b, c < q) (hla : a.length ≤ 1000) (hlb : b.length ≤ 1000) (hz : 0 < b.length) (hg0 : Nat.gcd (b.getD (b.length - 1) 0) q = 1) (lead : Nat) (hlq0 : lead < q) (hle0 : b.getD (b.length - 1) 0 * lead % q = 1 % q) (hab : a.length < b.length) :
    Calls Tryd.prog 26 #[.int .i64 (q : Nat), .slice xa a.length xk, .slice ya b.length yk] w fun e w' => RetDV (trimN (divL q b lead (a.length + 1 - b.length) a (List.replicate (a.length + 1 - b.length) 0)).2) (trimN (divL q b lead (a.length + 1 - b.length) a (List.replicate (a.length + 1 - b.length) 0)).1) e w' ∧ Below w.heap.size w w' := by
  have E0 : Hid (Env D w [] [.rw (.slice ya b.length yk) b.length 1 (ncl b), .rw (.slice xa a.length xk) a.length 1 (ncl a)] w) := Lib.hid (((Env.start D w).arg (.rw (.slice xa a.length xk) a.length 1 (ncl a)) hx).arg (.rw (.slice ya b.length yk) b.length 1 (ncl b)) hy)
  clear hx hy
  go_enter Tryd.func26, Tryd.ntmps26
  have hl := Lib.hid hl0
  have hv := Lib.hid hv0
  have ha := Lib.hid ha0
  have hb := Lib.hid hb0
  have hg := Lib.hid hg0
  have hlq := Lib.hid hlq0
  have hle := Lib.hid hle0
  clear hl0 hv0 ha0 hb0 hg0 hlq0 hle0
  have hq2 : -9223372036854775808 ≤ (q : Int) ∧ (q : Int) ≤ 9223372036854775807 := by unfold Top at hqT; omega
  have HQ2 := Lib.hid hq2
  clear hq2
  have HT := Lib.hid hqT
  clear hqT
  have HQ : Hid (0 < q) := Lib.hid (by omega)
  have HQ1 := Lib.hid hq1
  have d0 : ((b.length : Int) == 0) = false := beq_eq_false_iff_ne.2 (by omega)
  have d0n : (b.length == 0) = false := beq_eq_false_iff_ne.2 (by omega)
  have E1 : Hid (Env D w [(w.heap.size, 22, [.slice xa a.length xk, .slice ya b.length yk])] [.rw (.slice ya b.length yk) b.length 1 (ncl b), .rw (.slice xa a.length xk) a.length 1 (ncl a)] _) := Lib.hid ((E0.out.push 22 [.slice xa a.length xk, .slice ya b.length yk] (w.heap.size) (by simp)))
  go_wp2_with fail
  refine (valid_c q [nl a, nl b] (Mx.box2 (E1.out.bx 0 rfl) (Rw.toNl (E1.out.fc 1 rfl)) (Rw.toNl (E1.out.fc 0 rfl))) (hl.out.below E1.out.bel) HQ2.out hv.out (by simp)).mono ?_
  rintro e w1 ⟨rfl, hb⟩
  have E2 : Hid (Env D w [(w.heap.size, 22, [.slice xa a.length xk, .slice ya b.length yk])] [.rw (.slice ya b.length yk) b.length 1 (ncl b), .rw (.slice xa a.length xk) a.length 1 (ncl a)] w1) := Lib.hid (E1.out.below hb)
  clear E0 E1 hb
  have d1 : decide ((b.length : Int) ≤ (a.length : Int)) = false := decide_eq_false (by omega)
  have d2 : decide ((a.length : Int) ≥ (b.length : Int)) = false := decide_eq_false (by omega)
  have d1n : decide (b.length ≤ a.length) = false := decide_eq_false (by omega)
  have HN0 : Hid (a.length + 1 - b.length = 0) := Lib.hid (by omega)
  go_wp2_with fail
  refine (cloneN_c (E2.out.fc 1 rfl) (by omega)).mono ?_
  rintro e w2 ⟨⟨ca, ck, rfl, ch⟩, hb⟩
  have E3 : Hid (Env D w [(w.heap.size, 22, [.slice xa a.length xk, .slice ya b.length yk])] [.rw (.slice ca (a).length ck) (a).length 1 (ncl (a)), .rw (.slice ya b.length yk) b.length 1 (ncl b), .rw (.slice xa a.length xk) a.length 1 (ncl a)] w2) := Lib.hid (E2.out.got (E2.out.below hb) (.rw (.slice ca (a).length ck) (a).length 1 (ncl (a))) (Lib.hid (Rw.ge ch.out)).out)
  clear E2 hb
  obtain ⟨s, hs⟩ : ∃ s, b.length = s + 1 := ⟨b.length - 1, by omega⟩
  have hsb : s < b.length := by omega
  have hs9 : (s : Int) ≤ 999 := by omega
  have hsI : (s : Int) < (b.length : Int) := by omega
  have ls : (b.length : Int) - 1 = (s : Int) := by omega
  have lw : ∀ t : Int, t = (b.length : Int) → wrap64 (t - 1) = (s : Int) := fun t ht => by rw [ht, ls]; exact IntWalk.wrap64_in _ (by omega)
  have HSB : Hid (b.getD (b.length - 1) 0 = b[s]) := Lib.hid (by rw [hs]; exact getD_elem hsb)
  have HS1 := Lib.hid hs
  clear hs
  have hbs : ((b[s] : Nat) : Int) < (q : Int) := Int.ofNat_lt.2 (hb.out _ (List.getElem_mem hsb))
  obtain ⟨yab, yao, rfl⟩ := Rw.addr (E3.out.fc 1 rfl) (by omega)
  have E4 : Hid (Env D w [(w.heap.size, 22, [.slice xa a.length xk, .slice (some ⟨yab, yao, none⟩) b.length yk])] [.ce yab (yao + s) (.int .i64 (b[s] : Nat)), .rw (.slice ca (a).length ck) (a).length 1 (ncl (a)), .rw (.slice (some ⟨yab, yao, none⟩) b.length yk) b.length 1 (ncl b), .rw (.slice xa a.length xk) a.length 1 (ncl a)] _) := Lib.hid (E3.out.elN 1 rfl rfl (s) hsb)
  clear E3
  have u0 := (E4.out.fc 0 rfl).2
  go_wp2_with fail
  refine (polinv_c q b[s] _ hbs HT.out (by rw [← HSB.out]; exact hg.out)).mono ?_
  rintro e w3 ⟨⟨ld, ldh, rfl⟩, hb⟩
  have E5 : Hid (Env D w [(w.heap.size, 22, [.slice xa a.length xk, .slice (some ⟨yab, yao, none⟩) b.length yk])] [.ce yab (yao + s) (.int .i64 (b[s] : Nat)), .rw (.slice ca (a).length ck) (a).length 1 (ncl (a)), .rw (.slice (some ⟨yab, yao, none⟩) b.length yk) b.length 1 (ncl b), .rw (.slice xa a.length xk) a.length 1 (ncl a)] w3) := Lib.hid (E4.out.below hb)
  clear u0 E4 hb
  have HLD : Hid (ld = lead) := Lib.hid (inv_uniq ldh.out.1 hlq.out ldh.out.2 (by rw [← HSB.out]; exact hle.out))
  obtain rfl : ld = lead := HLD.out
  clear HLD
  go_wp2_with fail
  go_loopg [12] (1) (fun gk s12 wr => ∃ (z : Int), s12 = .int .i64 z ∧ Hid (Env D w [(w.heap.size, 22, [.slice xa a.length xk, .slice (some ⟨yab, yao, none⟩) b.length yk])] [.ce yab (yao + s) (.int .i64 (b[s] : Nat)), .rw (.slice ca (a).length ck) (a).length 1 (ncl (a)), .rw (.slice (some ⟨yab, yao, none⟩) b.length yk) b.length 1 (ncl b), .rw (.slice xa a.length xk) a.length 1 (ncl a)] wr) ∧ Hid (z = -1 ∧ gk = 1))
  case atStart => exact ⟨-1, rfl, Lib.hid E5.out, Lib.hid ⟨rfl, rfl⟩⟩
  case round =>
    clear E5
    obtain ⟨z, rfl, EL, HA⟩ := hrel
    obtain ⟨a1, a2⟩ := HA.out
    subst a1
    clear a2 HA
    go_wp2_with fail
    refine (trim_c [] (D := fun _ => True) (xa := none) (xk := 0) (Rw.nil _ _ _) (by simp)).mono ?_
    rintro e w4 ⟨⟨ma, mk, rfl, mh⟩, hb⟩
    have E6 : Hid (Env D w [(w.heap.size, 22, [.slice xa a.length xk, .slice (some ⟨yab, yao, none⟩) b.length yk])] [.rw (.slice ma (trimN []).length mk) (trimN []).length 1 (ncl (trimN [])), .ce yab (yao + s) (.int .i64 (b[s] : Nat)), .rw (.slice ca (a).length ck) (a).length 1 (ncl (a)), .rw (.slice (some ⟨yab, yao, none⟩) b.length yk) b.length 1 (ncl b), .rw (.slice xa a.length xk) a.length 1 (ncl a)] w4) := Lib.hid (EL.out.got (EL.out.below hb) (.rw (.slice ma (trimN []).length mk) (trimN []).length 1 (ncl (trimN []))) (Lib.hid (Rw.ge mh.out)).out)
    clear EL hb
    go_wp2_with fail
    refine (trim_c a (Rw.tr (E6.out.fc 2 rfl)) (by omega)).mono ?_
    rintro e w5 ⟨⟨ta, tk, rfl, th⟩, hb⟩
    have E7 : Hid (Env D w [(w.heap.size, 22, [.slice xa a.length xk, .slice (some ⟨yab, yao, none⟩) b.length yk])] [.rw (.slice ta (trimN a).length tk) (trimN a).length 1 (ncl (trimN a)), .rw (.slice ma (trimN []).length mk) (trimN []).length 1 (ncl (trimN [])), .ce yab (yao + s) (.int .i64 (b[s] : Nat)), .rw (.slice ca (a).length ck) (a).length 1 (ncl (a)), .rw (.slice (some ⟨yab, yao, none⟩) b.length yk) b.length 1 (ncl b), .rw (.slice xa a.length xk) a.length 1 (ncl a)] w5) := Lib.hid (E6.out.got (E6.out.below hb) (.rw (.slice ta (trimN a).length tk) (trimN a).length 1 (ncl (trimN a))) (Lib.hid (Rw.ge th.out)).out)
    clear E6 hb
    have hm := Lib.hid (Rw.tr (E7.out.fc 1 rfl))
    have ht := Lib.hid (Rw.tr (E7.out.fc 0 rfl))
    have hfin := Lib.hid E7.out.bel
    go_wp2
    refine bodyPost_ret (results_tmp3 rfl _ _ _) rfl ?_
    exact ⟨by rw [HN0.out]; exact ⟨ma, mk, ta, tk, rfl, hm, ht⟩, hfin.out⟩
set_option maxRecDepth 100000 in
set_option maxHeartbeats 4000000 in
theorem PDiv_b {D : Nat → Prop} (q : Nat) (a b : List Nat) {xa ya : Option Addr} {xk yk : Nat} {w : World} (hx : Fct.at w D (.rw (.slice xa a.length xk) a.length 1 (ncl a))) (hy : Fct.at w D (.rw (.slice ya b.length yk) b.length 1 (ncl b))) (hl0 : Laid w) (hv0 : validB (q : Int) [nl a, nl b] = true) (hq1 : 1 < q) (hqT : (q : Int) < Top) (ha0 : ∀ c ∈ a, c < q) (hb0 : ∀ c ∈ b, c < q) (hla : a.length ≤ 1000) (hlb : b.length ≤ 1000) (hz : 0 < b.length) (hg0 : Nat.gcd (b.getD (b.length - 1) 0) q = 1) (lead : Nat) (hlq0 : lead < q) (hle0 : b.getD (b.length - 1) 0 * lead % q = 1 % q) (hab : b.length ≤ a.length) :
    Calls Tryd.prog 26 #[.int .i64 (q : Nat), .slice xa a.length xk, .slice ya b.length yk] w fun e w' => RetDV (trimN (divL q b lead (a.length + 1 - b.length) a (List.replicate (a.length + 1 - b.length) 0)).2) (trimN (divL q b lead (a.length + 1 - b.length) a (List.replicate (a.length + 1 - b.length) 0)).1) e w' ∧ Below w.heap.size w w' := by
  have E0 : Hid (Env D w [] [.rw (.slice ya b.length yk) b.length 1 (ncl b), .rw (.slice xa a.length xk) a.length 1 (ncl a)] w) := Lib.hid (((Env.start D w).arg (.rw (.slice xa a.length xk) a.length 1 (ncl a)) hx).arg (.rw (.slice ya b.length yk) b.length 1 (ncl b)) hy)
  clear hx hy
  go_enter Tryd.func26, Tryd.ntmps26
  have hl := Lib.hid hl0
  have hv := Lib.hid hv0
  have ha := Lib.hid ha0
  have hb := Lib.hid hb0
  have hg := Lib.hid hg0
  have hlq := Lib.hid hlq0
  have hle := Lib.hid hle0
  clear hl0 hv0 ha0 hb0 hg0 hlq0 hle0
  have hq2 : -9223372036854775808 ≤ (q : Int) ∧ (q : Int) ≤ 9223372036854775807 := by unfold Top at hqT; omega
  have HQ2 := Lib.hid hq2
  clear hq2
  have HT := Lib.hid hqT
  clear hqT
  have HQ : Hid (0 < q) := Lib.hid (by omega)
  have HQ1 := Lib.hid hq1
  have d0 : ((b.length : Int) == 0) = false := beq_eq_false_iff_ne.2 (by omega)
  have d0n : (b.length == 0) = false := beq_eq_false_iff_ne.2 (by omega)
  have E1 : Hid (Env D w [(w.heap.size, 22, [.slice xa a.length xk, .slice ya b.length yk])] [.rw (.slice ya b.length yk) b.length 1 (ncl b), .rw (.slice xa a.length xk) a.length 1 (ncl a)] _) := Lib.hid ((E0.out.push 22 [.slice xa a.length xk, .slice ya b.length yk] (w.heap.size) (by simp)))
  go_wp2_with fail
  refine (valid_c q [nl a, nl b] (Mx.box2 (E1.out.bx 0 rfl) (Rw.toNl (E1.out.fc 1 rfl)) (Rw.toNl (E1.out.fc 0 rfl))) (hl.out.below E1.out.bel) HQ2.out hv.out (by simp)).mono ?_
  rintro e w1 ⟨rfl, hb⟩
  have E2 : Hid (Env D w [(w.heap.size, 22, [.slice xa a.length xk, .slice ya b.length yk])] [.rw (.slice ya b.length yk) b.length 1 (ncl b), .rw (.slice xa a.length xk) a.length 1 (ncl a)] w1) := Lib.hid (E1.out.below hb)
  clear E0 E1 hb
  have d1 : decide ((b.length : Int) ≤ (a.length : Int)) = true := decide_eq_true (by omega)
  have d2 : decide ((a.length : Int) ≥ (b.length : Int)) = true := decide_eq_true (by omega)
  have d1n : decide (b.length ≤ a.length) = true := decide_eq_true (by omega)
  go_wp2_with fail
  refine (cloneBox_c (E2.out.fc 1 rfl) (by omega) (by omega)).mono ?_
  rintro e w2 ⟨⟨og, oc, or, rfl, ob, ol⟩, hb⟩
  have E3 : Hid (Env D w [(og, 3, (ncl (a) ++ or)), (w.heap.size, 22, [.slice xa a.length xk, .slice ya b.length yk])] [.rw (.slice ya b.length yk) b.length 1 (ncl b), .rw (.slice xa a.length xk) a.length 1 (ncl a)] w2) := Lib.hid (E2.out.gotBox hb ob.out)
  clear E2 hb ob
  obtain ⟨hoc, hoc9⟩ := ol.out
  clear ol
  obtain ⟨n, hn⟩ : ∃ n, n = a.length + 1 - b.length := ⟨_, rfl⟩
  have hn1 : n + b.length = a.length + 1 := by omega
  have HN := Lib.hid hn
  have nc : (a.length : Int) - (b.length : Int) + 1 = (n : Int) := by omega
  clear hn
  have n8 : -9223372036854775808 ≤ (a.length : Int) - (b.length : Int) ∧ (a.length : Int) - (b.length : Int) ≤ 9223372036854775807 := by omega
  have nw1 : ∀ t : Int, t = (b.length : Int) → wrap64 ((a.length : Int) - t) = (a.length : Int) - (b.length : Int) := fun t ht => by rw [ht]; exact IntWalk.wrap64_in _ n8
  have nw2 : ∀ t : Int, t = (b.length : Int) → wrap64 ((a.length : Int) - t + 1) = (n : Int) := fun t ht => by rw [ht, nc]; exact IntWalk.wrap64_in _ (by omega)
  clear n8
  have hn9 : (n : Int) ≤ 1000 := by omega
  have hn0 : 0 < n := by omega
  go_wp2_with (at_make; refine wpl_makeI rfl _ _ rfl E3.out n rfl rfl (by omega) ?_)
  intro wm pg Em0
  have Em : Hid (Env D w [(pg, 3, (ncl (List.replicate n 0))), (og, 3, (ncl (a) ++ or)), (w.heap.size, 22, [.slice xa a.length xk, .slice ya b.length yk])] [.rw (.slice ya b.length yk) b.length 1 (ncl b), .rw (.slice xa a.length xk) a.length 1 (ncl a)] wm) := Lib.hid (by have h := Em0.out; rw [ncl_rep] at h; exact h)
  clear Em0 E3
  obtain ⟨s, hs⟩ : ∃ s, b.length = s + 1 := ⟨b.length - 1, by omega⟩
  have hsb : s < b.length := by omega
  have hs9 : (s : Int) ≤ 999 := by omega
  have hsI : (s : Int) < (b.length : Int) := by omega
  have ls : (b.length : Int) - 1 = (s : Int) := by omega
  have lw : ∀ t : Int, t = (b.length : Int) → wrap64 (t - 1) = (s : Int) := fun t ht => by rw [ht, ls]; exact IntWalk.wrap64_in _ (by omega)
  have HSB : Hid (b.getD (b.length - 1) 0 = b[s]) := Lib.hid (by rw [hs]; exact getD_elem hsb)
  have HS1 := Lib.hid hs
  clear hs
  have hbs : ((b[s] : Nat) : Int) < (q : Int) := Int.ofNat_lt.2 (hb.out _ (List.getElem_mem hsb))
  obtain ⟨yab, yao, rfl⟩ := Rw.addr (Em.out.fc 0 rfl) (by omega)
  have E4 : Hid (Env D w [(pg, 3, (ncl (List.replicate n 0))), (og, 3, (ncl (a) ++ or)), (w.heap.size, 22, [.slice xa a.length xk, .slice (some ⟨yab, yao, none⟩) b.length yk])] [.ce yab (yao + s) (.int .i64 (b[s] : Nat)), .rw (.slice (some ⟨yab, yao, none⟩) b.length yk) b.length 1 (ncl b), .rw (.slice xa a.length xk) a.length 1 (ncl a)] _) := Lib.hid (Em.out.elN 0 rfl rfl (s) hsb)
  clear Em
  have u0 := (E4.out.fc 0 rfl).2
  go_wp2_with fail
  refine (polinv_c q b[s] _ hbs HT.out (by rw [← HSB.out]; exact hg.out)).mono ?_
  rintro e w3 ⟨⟨ld, ldh, rfl⟩, hb⟩
  have E5 : Hid (Env D w [(pg, 3, (ncl (List.replicate n 0))), (og, 3, (ncl (a) ++ or)), (w.heap.size, 22, [.slice xa a.length xk, .slice (some ⟨yab, yao, none⟩) b.length yk])] [.ce yab (yao + s) (.int .i64 (b[s] : Nat)), .rw (.slice (some ⟨yab, yao, none⟩) b.length yk) b.length 1 (ncl b), .rw (.slice xa a.length xk) a.length 1 (ncl a)] w3) := Lib.hid (E4.out.below hb)
  clear u0 E4 hb
  have HLD : Hid (ld = lead) := Lib.hid (inv_uniq ldh.out.1 hlq.out ldh.out.2 (by rw [← HSB.out]; exact hle.out))
  obtain rfl : ld = lead := HLD.out
  clear HLD
  obtain ⟨F, hF⟩ : ∃ F, divL q b ld n a (List.replicate n 0) = F := ⟨_, rfl⟩
  have HF := Lib.hid hF
  clear hF
  have zw : ∀ t : Int, t = (n : Int) → wrap64 (t - 1) = (n : Int) - 1 := fun t ht => by rw [ht]; exact IntWalk.wrap64_in _ (by omega)
  go_wp2_with fail
  go_loopg [12] (n) (fun gk s12 wr => ∃ (z : Int) (m : Nat) (r o : List Nat), s12 = .int .i64 z ∧ Hid (Env D w [(pg, 3, (ncl o)), (og, 3, (ncl r ++ or)), (w.heap.size, 22, [.slice xa a.length xk, .slice (some ⟨yab, yao, none⟩) b.length yk])] [.ce yab (yao + s) (.int .i64 (b[s] : Nat)), .rw (.slice (some ⟨yab, yao, none⟩) b.length yk) b.length 1 (ncl b), .rw (.slice xa a.length xk) a.length 1 (ncl a)] wr) ∧ Hid ((z = (m : Int) - 1 ∧ m ≤ n ∧ gk = m) ∧ (r.length = a.length ∧ o.length = n) ∧ (∀ x ∈ r, x < q) ∧ divL q b ld m r o = F))
  case atStart => exact ⟨(n : Int) - 1, n, a, List.replicate n 0, rfl, Lib.hid E5.out, Lib.hid ⟨⟨rfl, Nat.le_refl _, rfl⟩, ⟨rfl, by simp⟩, ha.out, HF.out⟩⟩
  case round =>
    clear E5
    obtain ⟨z, m, r, o, rfl, EL, HA⟩ := hrel
    obtain ⟨⟨a1, a2, a3⟩, ⟨a4, a5⟩, a6, a7⟩ := HA.out
    have HR := Lib.hid a6
    have HD := Lib.hid a7
    clear a6 a7 HA zw
    have HRL := Lib.hid a4
    have HOL := Lib.hid a5
    by_cases hy : m = 0
    rotate_left
    · obtain ⟨i, rfl⟩ : ∃ i, m = i + 1 := ⟨m - 1, by omega⟩
      obtain rfl : z = (i : Int) := by omega
      clear hy a1
      have t6 : decide ((i : Int) ≥ 0) = true := decide_eq_true (by omega)
      have t7 : decide ((0 : Int) ≤ (i : Int)) = true := decide_eq_true (by omega)
      obtain ⟨d, hd⟩ : ∃ d, i + s = d := ⟨_, rfl⟩
      have hdr : d < r.length := by have := HS1.out; omega
      have hdI : (d : Int) < (a.length : Int) := by omega
      have hi9 : (i : Int) ≤ 999 := by omega
      have dc : (i : Int) + (b.length : Int) - 1 = (d : Int) := by have := HS1.out; omega
      have d8 : -9223372036854775808 ≤ (i : Int) + (b.length : Int) ∧ (i : Int) + (b.length : Int) ≤ 9223372036854775807 := by omega
      have dw1 : ∀ t : Int, t = (b.length : Int) → wrap64 ((i : Int) + t) = (i : Int) + (b.length : Int) := fun t ht => by rw [ht]; exact IntWalk.wrap64_in _ d8
      have dw2 : ∀ t : Int, t = (b.length : Int) → wrap64 ((i : Int) + t - 1) = (d : Int) := fun t ht => by rw [ht, dc]; exact IntWalk.wrap64_in _ (by omega)
      clear d8
      have hrd : ((r[d] : Nat) : Int) < (q : Int) := Int.ofNat_lt.2 (HR.out _ (List.getElem_mem hdr))
      have hlI : (ld : Int) < (q : Int) := Int.ofNat_lt.2 hlq.out
      have HDD : Hid (r.getD (i + b.length - 1) 0 = r[d]) := Lib.hid (by rw [show i + b.length - 1 = d by have := HS1.out; omega]; exact getD_elem hdr)
      have hio : i < o.length := by omega
      have hioI : (i : Int) < (n : Int) := by omega
      have hir : i + b.length ≤ r.length := by have := HS1.out; omega
      have HIR := Lib.hid hir
      clear hir
      have bg := EL.out.bx 1 rfl
      have y1 := bg.cell (d) (ncl_app_get r or d hdr)
      have y2 := bg.frozen (d)
      clear bg
      go_wp2_with fail
      refine (polmulB q r[d] ld _ hrd hlI HT.out).mono ?_
      rintro e w4 ⟨⟨c, ch, rfl⟩, hb⟩
      have E6 : Hid (Env D w [(pg, 3, (ncl o)), (og, 3, (ncl r ++ or)), (w.heap.size, 22, [.slice xa a.length xk, .slice (some ⟨yab, yao, none⟩) b.length yk])] [.ce yab (yao + s) (.int .i64 (b[s] : Nat)), .rw (.slice (some ⟨yab, yao, none⟩) b.length yk) b.length 1 (ncl b), .rw (.slice xa a.length xk) a.length 1 (ncl a)] w4) := Lib.hid (EL.out.below hb)
      clear y1 y2 EL hb
      have hcq : (c : Int) < (q : Int) := by rw [ch.out]; exact Int.ofNat_lt.2 (Nat.mod_lt _ HQ.out)
      clear dw1 dw2 dc
      have bg := E6.out.bx 0 rfl
      have y1 := bg.cell (i) (ncl_get o i hio)
      have y2 := bg.frozen (i)
      clear bg
      have E7 : Hid (Env D w [(pg, 3, (((ncl o)).set (i) (.int .i64 (c : Nat)))), (og, 3, (ncl r ++ or)), (w.heap.size, 22, [.slice xa a.length xk, .slice (some ⟨yab, yao, none⟩) b.length yk])] [.ce yab (yao + s) (.int .i64 (b[s] : Nat)), .rw (.slice (some ⟨yab, yao, none⟩) b.length yk) b.length 1 (ncl b), .rw (.slice xa a.length xk) a.length 1 (ncl a)] _) := Lib.hid ((E6.out.set 0 i (.int .i64 (c : Nat)) rfl))
      have E8 : Hid (Env D w [(pg, 3, (ncl (o.set i c))), (og, 3, (ncl r ++ or)), (w.heap.size, 22, [.slice xa a.length xk, .slice (some ⟨yab, yao, none⟩) b.length yk])] [.ce yab (yao + s) (.int .i64 (b[s] : Nat)), .rw (.slice (some ⟨yab, yao, none⟩) b.length yk) b.length 1 (ncl b), .rw (.slice xa a.length xk) a.length 1 (ncl a)] _) := Lib.hid (by have h := E7.out; rw [ncl_set o i c] at h; exact h)
      go_wp2_with fail
      go_loopg [73] (b.length) (fun gk s73 wr => ∃ (k : Nat) (p : List Nat), s73 = .int .i64 (k : Int) ∧ Hid (Env D w [(pg, 3, (ncl (o.set i c))), (og, 3, (ncl p ++ or)), (w.heap.size, 22, [.slice xa a.length xk, .slice (some ⟨yab, yao, none⟩) b.length yk])] [.ce yab (yao + s) (.int .i64 (b[s] : Nat)), .rw (.slice (some ⟨yab, yao, none⟩) b.length yk) b.length 1 (ncl b), .rw (.slice xa a.length xk) a.length 1 (ncl a)] wr) ∧ Hid ((k ≤ b.length ∧ gk = b.length - k) ∧ p = subL q b c i k r))
      case atStart => exact ⟨0, r, rfl, Lib.hid E8.out, Lib.hid ⟨⟨Nat.zero_le _, rfl⟩, rfl⟩⟩
      case round =>
        clear y1 y2 E6 E7 E8
        obtain ⟨k, p, rfl, EL, HA⟩ := hrel
        obtain ⟨⟨b1, b2⟩, b3⟩ := HA.out
        have HP := Lib.hid b3
        clear b3 HA
        have hpl : p.length = a.length := by rw [HP.out, subL_len]; exact HRL.out
        have HPL := Lib.hid hpl
        clear hpl
        by_cases hy : k = b.length
        rotate_left
        · have hk : k < b.length := by omega
          have t8 : decide ((k : Int) < (b.length : Int)) = true := decide_eq_true (by omega)
          have t9 : decide (k < b.length) = true := decide_eq_true hk
          clear hy
          have hk9 : (k : Int) ≤ 999 := by omega
          have hik : i + k < p.length := by have := HPL.out; have := HIR.out; omega
          have hin : ((i : Int) + (k : Int)) < (a.length : Int) := by have := HPL.out; omega
          have hinn : i + k < a.length := by have := HPL.out; omega
          have hik9 : i + k ≤ 9223372036854775807 := by omega
          have HIK9 := Lib.hid hik9
          clear hik9
          have h0ik : Hid ((0 : Int) ≤ (i : Int) + (k : Int)) := Lib.hid (by omega)
          have htn : Hid (((i : Int) + (k : Int)).toNat = i + k) := Lib.hid rfl
          have wik : wrap64 ((i : Int) + (k : Int)) = ((i + k : Nat) : Int) := wrap64_add i k HIK9.out
          have wik2 : IntKind.i64.wrap ((i : Int) + (k : Int)) = ((i + k : Nat) : Int) := wrapI_add i k HIK9.out
          have hpq : p[i + k] < q := (by rw [HP.out]; exact subL_lt HQ.out b c i k r HR.out : ∀ c ∈ p, c < q) _ (List.getElem_mem hik)
          have hbq : ((b[k] : Nat) : Int) < (q : Int) := Int.ofNat_lt.2 (hb.out _ (List.getElem_mem hk))
          have hpi : ((p[i + k] : Nat) : Int) < (q : Int) := Int.ofNat_lt.2 hpq
          have HPQ := Lib.hid hpq
          clear hpq
          have E9 : Hid (Env D w [(pg, 3, (ncl (o.set i c))), (og, 3, (ncl p ++ or)), (w.heap.size, 22, [.slice xa a.length xk, .slice (some ⟨yab, yao, none⟩) b.length yk])] [.ce yab (yao + k) (.int .i64 (b[k] : Nat)), .ce yab (yao + s) (.int .i64 (b[s] : Nat)), .rw (.slice (some ⟨yab, yao, none⟩) b.length yk) b.length 1 (ncl b), .rw (.slice xa a.length xk) a.length 1 (ncl a)] _) := Lib.hid (EL.out.elN 1 rfl rfl (k) hk)
          clear EL
          have v0 := (E9.out.fc 0 rfl).2
          go_wp2_with fail
          have E10 : Hid (Env D w [(pg, 3, (ncl (o.set i c))), (og, 3, (ncl p ++ or)), (w.heap.size, 22, [.slice xa a.length xk, .slice (some ⟨yab, yao, none⟩) b.length yk])] [.ce yab (yao + k) (.int .i64 (b[k] : Nat)), .ce yab (yao + s) (.int .i64 (b[s] : Nat)), .rw (.slice (some ⟨yab, yao, none⟩) b.length yk) b.length 1 (ncl b), .rw (.slice xa a.length xk) a.length 1 (ncl a)] (wr.drew)) := Lib.hid E9.out.drew
          clear v0 E9
          refine wp_regionU (S := fun w' => w'.cell? ⟨og, i + k, none⟩ = some (.int .i64 (p[i + k] : Nat))) [17] (by kernel_rfl) ((E10.out.bx 1 rfl).cell (i + k) (ncl_app_get p or (i + k) hik)) (fun hHeld => ?_)
          generalize wr.drew = w5 at *
          refine uTake (i := 0) (some 78) (v := ?_) rfl rfl (by kernel_rfl) (by kernel_rfl) (by kernel_rfl) (by kernel_rfl) (fun _ _ _ h => h) (by rfl) (by assumption) ?_ ?_
          rotate_left
          · (intro wS hSw; (try dsimp only at hSw); go_simp; try with_reducible rfl)
          try simp only [Act.put, List.setIfInBounds_toArray, List.set_cons_zero, List.set_cons_succ]
          refine uTake (i := 1) (some 79) (v := ?_) rfl rfl (by kernel_rfl) (by kernel_rfl) (by kernel_rfl) (by kernel_rfl) (fun _ _ _ h => h) (by rfl) (by assumption) ?_ ?_
          rotate_left
          · (intro wS hSw; (try dsimp only at hSw); go_simp; try with_reducible rfl)
          try simp only [Act.put, List.setIfInBounds_toArray, List.set_cons_zero, List.set_cons_succ]
          refine uTake (i := 2) (some 80) (v := ?_) rfl rfl (by kernel_rfl) (by kernel_rfl) (by kernel_rfl) (by kernel_rfl) (fun _ _ _ h => h) (by rfl) (by assumption) ?_ ?_
          rotate_left
          · (intro wS hSw; (try dsimp only at hSw); go_simp; try with_reducible rfl)
          try simp only [Act.put, List.setIfInBounds_toArray, List.set_cons_zero, List.set_cons_succ]
          refine uTake (i := 3) (some 81) (v := ?_) rfl rfl (by kernel_rfl) (by kernel_rfl) (by kernel_rfl) (by kernel_rfl) (fun _ _ _ h => h) (by rfl) (by assumption) ?_ ?_
          rotate_left
          · (intro wS hSw; (try dsimp only at hSw); go_simp; try with_reducible rfl)
          try simp only [Act.put, List.setIfInBounds_toArray, List.set_cons_zero, List.set_cons_succ]
          refine uTake (i := 4) (some 82) (v := ?_) rfl rfl (by kernel_rfl) (by kernel_rfl) (by kernel_rfl) (by kernel_rfl) (fun _ _ _ h => h) (by rfl) (by assumption) ?_ ?_
          rotate_left
          · (intro wS hSw; (try dsimp only at hSw); go_simp; try with_reducible rfl)
          try simp only [Act.put, List.setIfInBounds_toArray, List.set_cons_zero, List.set_cons_succ]
          refine uTake (i := 5) (some 83) (v := ?_) rfl rfl (by kernel_rfl) (by kernel_rfl) (by kernel_rfl) (by kernel_rfl) (fun _ _ _ h => h) (by rfl) (by assumption) ?_ ?_
          rotate_left
          · (intro wS hSw; (try dsimp only at hSw); go_simp; try with_reducible rfl)
          try simp only [Act.put, List.setIfInBounds_toArray, List.set_cons_zero, List.set_cons_succ]
          refine uTake (i := 6) (some 84) (v := ?_) rfl rfl (by kernel_rfl) (by kernel_rfl) (by kernel_rfl) (by kernel_rfl) (fun _ _ _ h => h) (by rfl) (by assumption) ?_ ?_
          rotate_left
          · (intro wS hSw; (try dsimp only at hSw); go_simp; try with_reducible rfl)
          try simp only [Act.put, List.setIfInBounds_toArray, List.set_cons_zero, List.set_cons_succ]
          refine uTake (i := 7) (some 85) (v := ?_) rfl rfl (by kernel_rfl) (by kernel_rfl) (by kernel_rfl) (by kernel_rfl) (fun _ _ _ h => h) (by rfl) (by assumption) ?_ ?_
          rotate_left
          · (intro wS hSw; (try dsimp only at hSw); go_simp; try with_reducible rfl)
          try simp only [Act.put, List.setIfInBounds_toArray, List.set_cons_zero, List.set_cons_succ]
          refine uTake (i := 8) (some 86) (v := ?_) rfl rfl (by kernel_rfl) (by kernel_rfl) (by kernel_rfl) (by kernel_rfl) (fun _ _ _ h => h) (by rfl) (by assumption) ?_ ?_
          rotate_left
          · (intro wS hSw; (try dsimp only at hSw); go_simp; try with_reducible rfl)
          try simp only [Act.put, List.setIfInBounds_toArray, List.set_cons_zero, List.set_cons_succ]
          refine uTake (i := 9) (some 87) (v := .pointer (some ⟨og, i + k, none⟩)) rfl rfl (by kernel_rfl) (by kernel_rfl) (by kernel_rfl) (by kernel_rfl) (fun _ _ _ h => h) (by rfl) (by assumption) ?_ ?_
          · (intro wS hSw; (try dsimp only at hSw); go_simp; rw [if_pos h0ik.out, htn.out])
          try simp only [Act.put, List.setIfInBounds_toArray, List.set_cons_zero, List.set_cons_succ]
          refine uTake (i := 10) (some 88) (v := ?_) rfl rfl (by kernel_rfl) (by kernel_rfl) (by kernel_rfl) (by kernel_rfl) (fun _ _ _ h => h) (by rfl) (by assumption) ?_ ?_
          rotate_left
          · (intro wS hSw; (try dsimp only at hSw); go_simp; try with_reducible rfl)
          try simp only [Act.put, List.setIfInBounds_toArray, List.set_cons_zero, List.set_cons_succ]
          refine uTake (i := 11) (some 89) (v := ?_) rfl rfl (by kernel_rfl) (by kernel_rfl) (by kernel_rfl) (by kernel_rfl) (fun _ _ _ h => h) (by rfl) (by assumption) ?_ ?_
          rotate_left
          · (intro wS hSw; (try dsimp only at hSw); go_simp; try with_reducible rfl)
          try simp only [Act.put, List.setIfInBounds_toArray, List.set_cons_zero, List.set_cons_succ]
          refine uTake (i := 12) (some 90) (v := ?_) rfl rfl (by kernel_rfl) (by kernel_rfl) (by kernel_rfl) (by kernel_rfl) (fun _ _ _ h => h) (by rfl) (by assumption) ?_ ?_
          rotate_left
          · (intro wS hSw; (try dsimp only at hSw); go_simp; try with_reducible rfl)
          try simp only [Act.put, List.setIfInBounds_toArray, List.set_cons_zero, List.set_cons_succ]
          refine uTake (i := 13) (some 91) (v := ?_) rfl rfl (by kernel_rfl) (by kernel_rfl) (by kernel_rfl) (by kernel_rfl) (fun _ _ _ h => h) (by rfl) (by assumption) ?_ ?_
          rotate_left
          · (intro wS hSw; (try dsimp only at hSw); go_simp; try with_reducible rfl)
          try simp only [Act.put, List.setIfInBounds_toArray, List.set_cons_zero, List.set_cons_succ]
          refine uReady (rs := [14]) (by kernel_rfl) (by simp) ?_
          refine ReadyU.cons rfl (fun KK hKK => ?_) ReadyU.nil
          go_simp
          refine (polmulB q c b[k] _ hcq hbq HT.out).mono ?_
          rintro e w6 ⟨⟨s1, s1h, rfl⟩, hb⟩
          have E11 : Hid (Env D w [(pg, 3, (ncl (o.set i c))), (og, 3, (ncl p ++ or)), (w.heap.size, 22, [.slice xa a.length xk, .slice (some ⟨yab, yao, none⟩) b.length yk])] [.ce yab (yao + k) (.int .i64 (b[k] : Nat)), .ce yab (yao + s) (.int .i64 (b[s] : Nat)), .rw (.slice (some ⟨yab, yao, none⟩) b.length yk) b.length 1 (ncl b), .rw (.slice xa a.length xk) a.length 1 (ncl a)] w6) := Lib.hid (E10.out.below hb)
          clear E10 hb
          have s1q : (s1 : Int) < (q : Int) := by rw [s1h.out]; exact Int.ofNat_lt.2 (Nat.mod_lt _ HQ.out)
          (try dsimp only)
          clear hHeld
          refine hKK.out _ _ ((E11.out.bx 1 rfl).cell (i + k) (ncl_app_get p or (i + k) hik)) (fun hHeld => ?_)
          clear hKK KK
          try simp only [Act.put, List.setIfInBounds_toArray, List.set_cons_zero, List.set_cons_succ]
          refine uReady (rs := [15]) (by kernel_rfl) (by simp) ?_
          refine ReadyU.cons rfl (fun KK hKK => ?_) ReadyU.nil
          go_simp
          refine (polsub_c q p[i + k] s1 _ hpi s1q HT.out).mono ?_
          rintro e w7 ⟨⟨s2, s2h, rfl⟩, hb⟩
          have E12 : Hid (Env D w [(pg, 3, (ncl (o.set i c))), (og, 3, (ncl p ++ or)), (w.heap.size, 22, [.slice xa a.length xk, .slice (some ⟨yab, yao, none⟩) b.length yk])] [.ce yab (yao + k) (.int .i64 (b[k] : Nat)), .ce yab (yao + s) (.int .i64 (b[s] : Nat)), .rw (.slice (some ⟨yab, yao, none⟩) b.length yk) b.length 1 (ncl b), .rw (.slice xa a.length xk) a.length 1 (ncl a)] w7) := Lib.hid (E11.out.below hb)
          clear E11 hb
          have s2q : (s2 : Int) < (q : Int) := by rw [s2h.out]; exact Int.ofNat_lt.2 (Nat.mod_lt _ HQ.out)
          (try dsimp only)
          clear hHeld
          refine hKK.out _ _ ((E12.out.bx 1 rfl).cell (i + k) (ncl_app_get p or (i + k) hik)) (fun hHeld => ?_)
          clear hKK KK
          try simp only [Act.put, List.setIfInBounds_toArray, List.set_cons_zero, List.set_cons_succ]
          refine uTake (i := 16) (some 94) (v := .pointer (some ⟨og, i + k, none⟩)) rfl rfl (by kernel_rfl) (by kernel_rfl) (by kernel_rfl) (by kernel_rfl) (fun _ _ _ h => h) (by rfl) (by assumption) ?_ ?_
          · (intro wS hSw; (try dsimp only at hSw); go_simp; rw [if_pos h0ik.out, htn.out])
          try simp only [Act.put, List.setIfInBounds_toArray, List.set_cons_zero, List.set_cons_succ]
          have fz := (E12.out.bx 1 rfl).frozen (i + k)
          refine uReady (rs := [17]) (by kernel_rfl) (by simp) ?_
          refine ReadyU.consU (by kernel_rfl) rfl (fun KK hKK => ?_) ReadyU.nil
          go_simp
          have E13 : Hid (Env D w [(pg, 3, (ncl (o.set i c))), (og, 3, ((ncl p ++ or).set (i + k) (.int .i64 (s2 : Nat)))), (w.heap.size, 22, [.slice xa a.length xk, .slice (some ⟨yab, yao, none⟩) b.length yk])] [.ce yab (yao + k) (.int .i64 (b[k] : Nat)), .ce yab (yao + s) (.int .i64 (b[s] : Nat)), .rw (.slice (some ⟨yab, yao, none⟩) b.length yk) b.length 1 (ncl b), .rw (.slice xa a.length xk) a.length 1 (ncl a)] _) := Lib.hid ((E12.out.set 1 (i + k) (.int .i64 (s2 : Nat)) rfl))
          (try dsimp only)
          (try clear hHeld)
          refine hKK.out _ _ ?_
          clear hKK KK
          try simp only [Act.put, List.setIfInBounds_toArray, List.set_cons_zero, List.set_cons_succ]
          refine uDone (by kernel_rfl) ?_ _
          have E14 : Hid (Env D w [(pg, 3, (ncl (o.set i c))), (og, 3, (ncl (p.set (i + k) s2) ++ or)), (w.heap.size, 22, [.slice xa a.length xk, .slice (some ⟨yab, yao, none⟩) b.length yk])] [.ce yab (yao + k) (.int .i64 (b[k] : Nat)), .ce yab (yao + s) (.int .i64 (b[s] : Nat)), .rw (.slice (some ⟨yab, yao, none⟩) b.length yk) b.length 1 (ncl b), .rw (.slice xa a.length xk) a.length 1 (ncl a)] _) := Lib.hid (by have h := E13.out; rw [ncl_app_set p or (i + k) s2 hik] at h; exact h)
          have HNX := Lib.hid (subL_step (q := q) (r := r) (c := c) (i := i) (s := s2) hk (by rw [← HP.out]; exact hik) s1h.out (by rw [s2h.out]; exact congrArg (fun t => (t + (q - s1)) % q) (getElem_congr_coll HP.out)))
          clear wik wik2
          have EZ := Lib.hid (E14.out.forget)
          go_wp2
          go_roundg (b.length - (k + 1))
          case rel => exact ⟨k + 1, p.set (i + k) s2, rfl, EZ, Lib.hid ⟨⟨by omega, rfl⟩, by rw [← HNX.out]; exact congrArg (fun t => t.set (i + k) s2) HP.out⟩⟩
          case measure => exact by omega
        have t8 : decide ((k : Int) < (b.length : Int)) = false := decide_eq_false (by omega)
        have t9 : decide (k < b.length) = false := decide_eq_false (by omega)
        have HPF : Hid (p = subL q b c i b.length r) := Lib.hid (by rw [HP.out, hy])
        have HY := Lib.hid hy
        clear hy
        have HDN : Hid (divL q b ld i p (o.set i c) = F) := Lib.hid (by have h := HD.out; rw [divL, HDD.out, ← ch.out, ← HPF.out] at h; exact h)
        have HPR : Hid (∀ x ∈ p, x < q) := Lib.hid (by rw [HPF.out]; exact subL_lt HQ.out _ _ _ _ _ HR.out)
        have zw2 : ∀ t : Int, t = (i : Int) → wrap64 (t - 1) = (i : Int) - 1 := fun t ht => by rw [ht]; exact IntWalk.wrap64_in _ (by omega)
        have EZ := Lib.hid EL.out
        go_wp2
        go_roundg (i)
        case rel => exact ⟨(i : Int) - 1, i, p, o.set i c, rfl, EZ, Lib.hid ⟨⟨rfl, by omega, rfl⟩, ⟨HPL.out, by rw [List.length_set]; exact HOL.out⟩, HPR.out, HDN.out⟩⟩
        case measure => exact by omega
    subst hy
    obtain rfl : z = -1 := by omega
    clear a1
    obtain ⟨h1, h2⟩ : r = F.1 ∧ o = F.2 := by rw [← HD.out]; exact ⟨rfl, rfl⟩
    have HF1 := Lib.hid h1
    have HF2 := Lib.hid h2
    clear h1 h2
    go_wp2_with fail
    refine (trim_at (l := o) (n := n) HOL.out (Rw.boxP (cap := n) (EL.out.bx 0 rfl) (by have := HOL.out; omega) (by omega)) (by omega)).mono ?_
    rintro e w4 ⟨⟨ma, mk, rfl, mh⟩, hb⟩
    have E6 : Hid (Env D w [(pg, 3, (ncl o)), (og, 3, (ncl r ++ or)), (w.heap.size, 22, [.slice xa a.length xk, .slice (some ⟨yab, yao, none⟩) b.length yk])] [.rw (.slice ma (trimN o).length mk) (trimN o).length 1 (ncl (trimN o)), .ce yab (yao + s) (.int .i64 (b[s] : Nat)), .rw (.slice (some ⟨yab, yao, none⟩) b.length yk) b.length 1 (ncl b), .rw (.slice xa a.length xk) a.length 1 (ncl a)] w4) := Lib.hid (EL.out.got (EL.out.below hb) (.rw (.slice ma (trimN o).length mk) (trimN o).length 1 (ncl (trimN o))) (Lib.hid (Rw.ge mh.out)).out)
    clear EL hb
    go_wp2_with fail
    refine (trim_at (l := r) (n := a.length) HRL.out (Rw.boxN (cap := oc) (E6.out.bx 1 rfl) (by have := HRL.out; omega) hoc9) (by omega)).mono ?_
    rintro e w5 ⟨⟨ta, tk, rfl, th⟩, hb⟩
    have E7 : Hid (Env D w [(pg, 3, (ncl o)), (og, 3, (ncl r ++ or)), (w.heap.size, 22, [.slice xa a.length xk, .slice (some ⟨yab, yao, none⟩) b.length yk])] [.rw (.slice ta (trimN r).length tk) (trimN r).length 1 (ncl (trimN r)), .rw (.slice ma (trimN o).length mk) (trimN o).length 1 (ncl (trimN o)), .ce yab (yao + s) (.int .i64 (b[s] : Nat)), .rw (.slice (some ⟨yab, yao, none⟩) b.length yk) b.length 1 (ncl b), .rw (.slice xa a.length xk) a.length 1 (ncl a)] w5) := Lib.hid (E6.out.got (E6.out.below hb) (.rw (.slice ta (trimN r).length tk) (trimN r).length 1 (ncl (trimN r))) (Lib.hid (Rw.ge th.out)).out)
    clear E6 hb
    have hm := Lib.hid (Rw.tr (E7.out.fc 1 rfl))
    have ht := Lib.hid (Rw.tr (E7.out.fc 0 rfl))
    have hfin := Lib.hid E7.out.bel
    go_wp2
    refine bodyPost_ret (results_tmp3 rfl _ _ _) rfl ?_
    exact ⟨by rw [← HN.out, HF.out, ← HF1.out, ← HF2.out]; exact ⟨ma, mk, ta, tk, rfl, hm, ht⟩, hfin.out⟩
end Go.Proofs.YteipbcpnnojclaaDoor

/- poly: product, Mul. -/
import Derived.Test.YteipbcpnnojclaaDoorPolH
namespace Go.Proofs.YteipbcpnnojclaaDoor
open Go.RowKit DivMath WordMath
set_option linter.unusedVariables false
set_option linter.unusedSimpArgs false
/-- a row of a product, behind k rounds -/
def mulRow (q : Nat) (a b : List Nat) (i : Nat) : Nat → List Nat → List Nat
  | 0, o => o
  | k + 1, o => (mulRow q a b i k o).set (i + k) (((mulRow q a b i k o).getD (i + k) 0 + a.getD i 0 * b.getD k 0 % q) % q)
def mulTo (q : Nat) (a b : List Nat) : Nat → List Nat
  | 0 => List.replicate (a.length + b.length - 1) 0
  | i + 1 => mulRow q a b i b.length (mulTo q a b i)
/-- the product of two rows of residues -/
def mulL (q : Nat) (a b : List Nat) : List Nat := if a.length = 0 ∨ b.length = 0 then [] else mulTo q a b a.length
theorem mulRow_len (q : Nat) (a b : List Nat) (i : Nat) : ∀ k o, (mulRow q a b i k o).length = o.length
  | 0, _ => rfl
  | k + 1, o => by simp [mulRow, mulRow_len q a b i k o]
theorem mulTo_len (q : Nat) (a b : List Nat) : ∀ i, (mulTo q a b i).length = a.length + b.length - 1
  | 0 => by simp [mulTo]
  | i + 1 => by simp [mulTo, mulRow_len, mulTo_len q a b i]
theorem set_lt {q : Nat} {o : List Nat} (h : ∀ c ∈ o, c < q) {i v : Nat} (hv : v < q) : ∀ c ∈ o.set i v, c < q := fun c hc => by
  rcases List.mem_or_eq_of_mem_set hc with hc | rfl
  · exact h c hc
  · exact hv
theorem mulRow_lt {q : Nat} (hq : 0 < q) (a b : List Nat) (i : Nat) : ∀ k o, (∀ c ∈ o, c < q) → ∀ c ∈ mulRow q a b i k o, c < q
  | 0, _, h => h
  | k + 1, o, h => by unfold mulRow; exact set_lt (mulRow_lt hq a b i k o h) (Nat.mod_lt _ hq)
theorem mulTo_lt {q : Nat} (hq : 0 < q) (a b : List Nat) : ∀ i, ∀ c ∈ mulTo q a b i, c < q
  | 0 => fun c hc => by unfold mulTo at hc; rw [(List.mem_replicate.1 hc).2]; exact hq
  | i + 1 => by unfold mulTo; exact mulRow_lt hq a b i _ _ (mulTo_lt hq a b i)
theorem mulRow_step {q : Nat} {a b : List Nat} {i k : Nat} {o0 : List Nat} (ha : i < a.length) (hk : k < b.length) (ho : i + k < (mulRow q a b i k o0).length) {r : Nat} (hr : r = a[i] * b[k] % q) :
    (mulRow q a b i k o0).set (i + k) (((mulRow q a b i k o0)[i + k] + r) % q) = mulRow q a b i (k + 1) o0 := by
  show _ = (mulRow q a b i k o0).set (i + k) _
  rw [hr]
  simp [List.getElem?_eq_getElem ho, List.getElem?_eq_getElem ha, List.getElem?_eq_getElem hk]
theorem Rw.boxP {W : World} {B g : Nat} {T : TypeId} {o : List Nat} {cap : Nat} (hB : Box B g T (ncl o) W) (h1 : o.length ≤ cap) (h2 : cap ≤ 9223372036854775807) : Rw W (fun _ => True) (.slice (some ⟨g, 0, none⟩) o.length cap) o.length 1 (ncl o) :=
  Rw.boxN (rs := []) (by rw [List.append_nil]; exact hB) h1 h2
theorem wrapI_add (a b : Nat) (h : a + b ≤ 9223372036854775807) : IntKind.i64.wrap ((a : Int) + (b : Int)) = ((a + b : Nat) : Int) := by rw [IntKind.wrap_i64]; omega
theorem wrap64_add (a b : Nat) (h : a + b ≤ 9223372036854775807) : wrap64 ((a : Int) + (b : Int)) = ((a + b : Nat) : Int) := by rw [IntWalk.wrap64_in _ (by omega)]; rfl
theorem wrapI_res {q a b : Nat} (ha : (a : Int) < (q : Int)) (hb : (b : Int) < (q : Int)) (hq : (q : Int) ≤ 2305843009213693951) : IntKind.i64.wrap ((a : Int) + (b : Int)) = ((a + b : Nat) : Int) := wrapI_add a b (by omega)
theorem polmulB (q a b : Nat) (w : World) (ha : (a : Int) < (q : Int)) (hb : (b : Int) < (q : Int)) (hm : (q : Int) < Top) :
    Calls Tryd.prog 58 #[.int .i64 q, .int .i64 a, .int .i64 b] w fun e w' => RetN (fun r => r = a * b % q) e ∧ Below w.heap.size w w' :=
  (polmul_c q a b w ha hb hm).mono fun e w' ⟨h1, h2⟩ => ⟨h1, h2.below⟩
set_option maxRecDepth 100000 in
set_option maxHeartbeats 4000000 in
theorem prod_a {D : Nat → Prop} (q : Nat) (a b : List Nat) {xa ya : Option Addr} {xk yk : Nat} {w : World} (hx : Fct.at w D (.rw (.slice xa a.length xk) a.length 1 (ncl a))) (hy : Fct.at w D (.rw (.slice ya b.length yk) b.length 1 (ncl b))) (hq : 0 < q) (hqT : (q : Int) < Top) (ha0 : ∀ c ∈ a, c < q) (hb0 : ∀ c ∈ b, c < q) (hla : a.length ≤ 1000) (hlb : b.length ≤ 1000) (hz : a.length = 0) :
    Calls Tryd.prog 63 #[.int .i64 (q : Nat), .slice xa a.length xk, .slice ya b.length yk] w fun e w' => e = .returned (.slice none 0 0) ∧ Below w.heap.size w w' := by
  have E0 : Hid (Env D w [] [.rw (.slice ya b.length yk) b.length 1 (ncl b), .rw (.slice xa a.length xk) a.length 1 (ncl a)] w) := Lib.hid (((Env.start D w).arg (.rw (.slice xa a.length xk) a.length 1 (ncl a)) hx).arg (.rw (.slice ya b.length yk) b.length 1 (ncl b)) hy)
  clear hx hy
  go_enter Tryd.func63, Tryd.ntmps63
  have ha := Lib.hid ha0
  have hb := Lib.hid hb0
  clear ha0 hb0
  have HT := Lib.hid hqT
  have hq9 : (q : Int) ≤ 2305843009213693951 := by unfold Top at hqT; omega
  clear hqT
  have hq0 : ¬ (q = 0) := by omega
  have hqz : ((q : Int) == 0) = false := by simp; omega
  obtain rfl := List.length_eq_zero_iff.1 hz
  have d0 : (((([] : List Nat).length : Nat) : Int) == 0) = true := rfl
  have hfin := Lib.hid E0.out.bel
  go_wp2
  go_ret
  exact ⟨rfl, hfin.out⟩
set_option maxRecDepth 100000 in
set_option maxHeartbeats 4000000 in
theorem prod_b {D : Nat → Prop} (q : Nat) (a b : List Nat) {xa ya : Option Addr} {xk yk : Nat} {w : World} (hx : Fct.at w D (.rw (.slice xa a.length xk) a.length 1 (ncl a))) (hy : Fct.at w D (.rw (.slice ya b.length yk) b.length 1 (ncl b))) (hq : 0 < q) (hqT : (q : Int) < Top) (ha0 : ∀ c ∈ a, c < q) (hb0 : ∀ c ∈ b, c < q) (hla : a.length ≤ 1000) (hlb : b.length ≤ 1000) (hz : 0 < a.length) (hz2 : b.length = 0) :
    Calls Tryd.prog 63 #[.int .i64 (q : Nat), .slice xa a.length xk, .slice ya b.length yk] w fun e w' => e = .returned (.slice none 0 0) ∧ Below w.heap.size w w' := by
  have E0 : Hid (Env D w [] [.rw (.slice ya b.length yk) b.length 1 (ncl b), .rw (.slice xa a.length xk) a.length 1 (ncl a)] w) := Lib.hid (((Env.start D w).arg (.rw (.slice xa a.length xk) a.length 1 (ncl a)) hx).arg (.rw (.slice ya b.length yk) b.length 1 (ncl b)) hy)
  clear hx hy
  go_enter Tryd.func63, Tryd.ntmps63
  have ha := Lib.hid ha0
  have hb := Lib.hid hb0
  clear ha0 hb0
  have HT := Lib.hid hqT
  have hq9 : (q : Int) ≤ 2305843009213693951 := by unfold Top at hqT; omega
  clear hqT
  have hq0 : ¬ (q = 0) := by omega
  have hqz : ((q : Int) == 0) = false := by simp; omega
  have d0 : ((a.length : Int) == 0) = false := beq_eq_false_iff_ne.2 (by omega)
  obtain rfl := List.length_eq_zero_iff.1 hz2
  have d1 : (((([] : List Nat).length : Nat) : Int) == 0) = true := rfl
  have hfin := Lib.hid E0.out.bel
  go_wp2
  go_ret
  exact ⟨rfl, hfin.out⟩
set_option maxRecDepth 100000 in
set_option maxHeartbeats 4000000 in
theorem prod_c {D : Nat → Prop} (q : Nat) (a b : List Nat) {xa ya : Option Addr} {xk yk : Nat} {w : World} (hx : Fct.at w D (.rw (.slice xa a.length xk) a.length 1 (ncl a))) (hy : Fct.at w D (.rw (.slice ya b.length yk) b.length 1 (ncl b))) (hq : 0 < q) (hqT : (q : Int) < Top) (ha0 : ∀ c ∈ a, c < q) (hb0 : ∀ c ∈ b, c < q) (hla : a.length ≤ 1000) (hlb : b.length ≤ 1000) (hz : 0 < a.length) (hz2 : 0 < b.length) :
    Calls Tryd.prog 63 #[.int .i64 (q : Nat), .slice xa a.length xk, .slice ya b.length yk] w fun e w' => RetI (fun b => w.heap.size ≤ b) (trimN (mulTo q a b a.length)) e w' ∧ Below w.heap.size w w' := by
  have E0 : Hid (Env D w [] [.rw (.slice ya b.length yk) b.length 1 (ncl b), .rw (.slice xa a.length xk) a.length 1 (ncl a)] w) := Lib.hid (((Env.start D w).arg (.rw (.slice xa a.length xk) a.length 1 (ncl a)) hx).arg (.rw (.slice ya b.length yk) b.length 1 (ncl b)) hy)
  clear hx hy
  go_enter Tryd.func63, Tryd.ntmps63
  have ha := Lib.hid ha0
  have hb := Lib.hid hb0
  clear ha0 hb0
  have HT := Lib.hid hqT
  have hq9 : (q : Int) ≤ 2305843009213693951 := by unfold Top at hqT; omega
  clear hqT
  have hq0 : ¬ (q = 0) := by omega
  have hqz : ((q : Int) == 0) = false := by simp; omega
  have d0 : ((a.length : Int) == 0) = false := beq_eq_false_iff_ne.2 (by omega)
  have d1 : ((b.length : Int) == 0) = false := beq_eq_false_iff_ne.2 (by omega)
  have d0n : (a.length == 0) = false := beq_eq_false_iff_ne.2 (by omega)
  have d1n : (b.length == 0) = false := beq_eq_false_iff_ne.2 (by omega)
  have ws : wrap64 ((a.length : Int) + (b.length : Int)) = ((a.length + b.length : Nat) : Int) := by rw [IntWalk.wrap64_in _ (by omega)]; rfl
  have ws2 : wrap64 (((a.length + b.length : Nat) : Int) - 1) = ((a.length + b.length - 1 : Nat) : Int) := by rw [IntWalk.wrap64_in _ (by omega)]; omega
  have ws3 : wrap64 ((a.length : Int) + (b.length : Int) - 1) = ((a.length + b.length - 1 : Nat) : Int) := by rw [IntWalk.wrap64_in _ (by omega)]; omega
  obtain ⟨n, hn⟩ : ∃ n, n = a.length + b.length - 1 := ⟨_, rfl⟩
  rw [← hn] at ws2 ws3
  have hn9 : n ≤ 2000 := by omega
  have HN := Lib.hid hn
  clear hn
  have ws4 : (a.length : Int) + (b.length : Int) - 1 = (n : Int) := by have := HN.out; omega
  go_wp2_with (at_make; refine wpl_makeI rfl _ _ rfl E0.out n rfl rfl (by omega) ?_)
  intro wm pg Em0
  have Em : Hid (Env D w [(pg, 3, ncl (List.replicate n 0))] [.rw (.slice ya b.length yk) b.length 1 (ncl b), .rw (.slice xa a.length xk) a.length 1 (ncl a)] wm) := Lib.hid (by have h := Em0.out; rw [ncl_rep] at h; exact h)
  clear Em0 E0
  go_wp2_with fail
  go_loopg [29] (a.length) (fun gk s29 wr => ∃ (i : Nat) (o : List Nat), s29 = .int .i64 (i : Int) ∧ Hid (Env D w [(pg, 3, (ncl o))] [.rw (.slice ya b.length yk) b.length 1 (ncl b), .rw (.slice xa a.length xk) a.length 1 (ncl a)] wr) ∧ Hid ((i ≤ a.length ∧ gk = a.length - i) ∧ o = mulTo q a b i))
  case atStart => exact ⟨0, List.replicate n 0, rfl, Lib.hid Em.out, Lib.hid ⟨⟨Nat.zero_le _, rfl⟩, by rw [HN.out]; rfl⟩⟩
  case round =>
    clear Em
    obtain ⟨i, o, rfl, EL, HA⟩ := hrel
    obtain ⟨⟨a1, a2⟩, a3⟩ := HA.out
    have HS := Lib.hid a3
    clear a3 HA
    have hol : o.length = n := by rw [HS.out, HN.out]; exact mulTo_len q a b i
    have HOL := Lib.hid hol
    clear hol
    by_cases hy : i = a.length
    rotate_left
    · have hi : i < a.length := by omega
      have hi9 : (i : Int) ≤ 999 := by omega
      have t6 : decide ((i : Int) < (a.length : Int)) = true := decide_eq_true (by omega)
      have t7 : decide (i < a.length) = true := decide_eq_true hi
      clear hy
      obtain ⟨xab, xao, rfl⟩ := Rw.addr (EL.out.fc 1 rfl) (by omega)
      have E1 : Hid (Env D w [(pg, 3, (ncl o))] [.ce xab (xao + i) (.int .i64 (a[i] : Nat)), .rw (.slice ya b.length yk) b.length 1 (ncl b), .rw (.slice (some ⟨xab, xao, none⟩) a.length xk) a.length 1 (ncl a)] _) := Lib.hid (EL.out.elN 1 rfl rfl (i) hi)
      clear EL
      have u0 := (E1.out.fc 0 rfl).2
      go_wp2_with fail
      have E2 : Hid (Env D w [(pg, 3, (ncl o))] [.rw (.slice ya b.length yk) b.length 1 (ncl b), .rw (.slice (some ⟨xab, xao, none⟩) a.length xk) a.length 1 (ncl a)] _) := Lib.hid E1.out.forget
      clear E1
      clear u0
      go_loopg [36] (b.length) (fun gk s36 wr => ∃ (k : Nat) (p : List Nat), s36 = .int .i64 (k : Int) ∧ Hid (Env D w [(pg, 3, (ncl p))] [.rw (.slice ya b.length yk) b.length 1 (ncl b), .rw (.slice (some ⟨xab, xao, none⟩) a.length xk) a.length 1 (ncl a)] wr) ∧ Hid ((k ≤ b.length ∧ gk = b.length - k) ∧ p = mulRow q a b i k o))
      case atStart => exact ⟨0, o, rfl, Lib.hid E2.out, Lib.hid ⟨⟨Nat.zero_le _, rfl⟩, rfl⟩⟩
      case round =>
        clear E2
        obtain ⟨k, p, rfl, EL, HA⟩ := hrel
        obtain ⟨⟨b1, b2⟩, b3⟩ := HA.out
        have HP := Lib.hid b3
        clear b3 HA
        have hpl : p.length = n := by rw [HP.out, mulRow_len]; exact HOL.out
        have HPL := Lib.hid hpl
        clear hpl
        by_cases hy : k = b.length
        rotate_left
        · have hk : k < b.length := by omega
          have t8 : decide ((k : Int) < (b.length : Int)) = true := decide_eq_true (by omega)
          have t9 : decide (k < b.length) = true := decide_eq_true hk
          clear hy
          have hk9 : (k : Int) ≤ 999 := by omega
          have hik : i + k < p.length := by rw [HPL.out, HN.out]; omega
          have hin : ((i : Int) + (k : Int)) < (n : Int) := by have := HPL.out; omega
          have hinn : i + k < n := by have := HPL.out; omega
          have hik9 : i + k ≤ 9223372036854775807 := by omega
          have HIK9 := Lib.hid hik9
          clear hik9
          have h0ik : Hid ((0 : Int) ≤ (i : Int) + (k : Int)) := Lib.hid (by omega)
          have htn : Hid (((i : Int) + (k : Int)).toNat = i + k) := Lib.hid rfl
          have wik : wrap64 ((i : Int) + (k : Int)) = ((i + k : Nat) : Int) := wrap64_add i k HIK9.out
          have wik2 : IntKind.i64.wrap ((i : Int) + (k : Int)) = ((i + k : Nat) : Int) := wrapI_add i k HIK9.out
          have hpq : p[i + k] < q := (by rw [HP.out]; exact mulRow_lt hq a b i k o (by rw [HS.out]; exact mulTo_lt hq a b i) : ∀ c ∈ p, c < q) _ (List.getElem_mem hik)
          have haq : ((a[i] : Nat) : Int) < (q : Int) := Int.ofNat_lt.2 (ha.out _ (List.getElem_mem hi))
          have hbq : ((b[k] : Nat) : Int) < (q : Int) := Int.ofNat_lt.2 (hb.out _ (List.getElem_mem hk))
          have hpi : ((p[i + k] : Nat) : Int) < (q : Int) := Int.ofNat_lt.2 hpq
          have HPQ := Lib.hid hpq
          clear hpq
          obtain ⟨yab, yao, rfl⟩ := Rw.addr (EL.out.fc 0 rfl) (by omega)
          have E3 : Hid (Env D w [(pg, 3, (ncl p))] [.ce yab (yao + k) (.int .i64 (b[k] : Nat)), .rw (.slice (some ⟨yab, yao, none⟩) b.length yk) b.length 1 (ncl b), .rw (.slice (some ⟨xab, xao, none⟩) a.length xk) a.length 1 (ncl a)] _) := Lib.hid (EL.out.elN 0 rfl rfl (k) hk)
          clear EL
          have v0 := (E3.out.fc 0 rfl).2
          go_wp2_with fail
          have E4 : Hid (Env D w [(pg, 3, (ncl p))] [.ce yab (yao + k) (.int .i64 (b[k] : Nat)), .rw (.slice (some ⟨yab, yao, none⟩) b.length yk) b.length 1 (ncl b), .rw (.slice (some ⟨xab, xao, none⟩) a.length xk) a.length 1 (ncl a)] (wr.drew)) := Lib.hid E3.out.drew
          clear v0 E3
          refine wp_regionU (S := fun w' => w'.cell? ⟨pg, i + k, none⟩ = some (.int .i64 (p[i + k] : Nat))) [18] (by kernel_rfl) ((E4.out.bx 0 rfl).cell (i + k) (ncl_get p (i + k) hik)) (fun hHeld => ?_)
          generalize wr.drew = w1 at *
          refine uTake (i := 0) (some 41) (v := ?_) rfl rfl (by kernel_rfl) (by kernel_rfl) (by kernel_rfl) (by kernel_rfl) (fun _ _ _ h => h) (by rfl) (by assumption) ?_ ?_
          rotate_left
          · (intro wS hSw; (try dsimp only at hSw); go_simp; try with_reducible rfl)
          try simp only [Act.put, List.setIfInBounds_toArray, List.set_cons_zero, List.set_cons_succ]
          refine uTake (i := 1) (some 42) (v := ?_) rfl rfl (by kernel_rfl) (by kernel_rfl) (by kernel_rfl) (by kernel_rfl) (fun _ _ _ h => h) (by rfl) (by assumption) ?_ ?_
          rotate_left
          · (intro wS hSw; (try dsimp only at hSw); go_simp; try with_reducible rfl)
          try simp only [Act.put, List.setIfInBounds_toArray, List.set_cons_zero, List.set_cons_succ]
          refine uTake (i := 2) (some 43) (v := ?_) rfl rfl (by kernel_rfl) (by kernel_rfl) (by kernel_rfl) (by kernel_rfl) (fun _ _ _ h => h) (by rfl) (by assumption) ?_ ?_
          rotate_left
          · (intro wS hSw; (try dsimp only at hSw); go_simp; try with_reducible rfl)
          try simp only [Act.put, List.setIfInBounds_toArray, List.set_cons_zero, List.set_cons_succ]
          refine uTake (i := 3) (some 44) (v := ?_) rfl rfl (by kernel_rfl) (by kernel_rfl) (by kernel_rfl) (by kernel_rfl) (fun _ _ _ h => h) (by rfl) (by assumption) ?_ ?_
          rotate_left
          · (intro wS hSw; (try dsimp only at hSw); go_simp; try with_reducible rfl)
          try simp only [Act.put, List.setIfInBounds_toArray, List.set_cons_zero, List.set_cons_succ]
          refine uTake (i := 4) (some 45) (v := ?_) rfl rfl (by kernel_rfl) (by kernel_rfl) (by kernel_rfl) (by kernel_rfl) (fun _ _ _ h => h) (by rfl) (by assumption) ?_ ?_
          rotate_left
          · (intro wS hSw; (try dsimp only at hSw); go_simp; try with_reducible rfl)
          try simp only [Act.put, List.setIfInBounds_toArray, List.set_cons_zero, List.set_cons_succ]
          refine uTake (i := 5) (some 46) (v := ?_) rfl rfl (by kernel_rfl) (by kernel_rfl) (by kernel_rfl) (by kernel_rfl) (fun _ _ _ h => h) (by rfl) (by assumption) ?_ ?_
          rotate_left
          · (intro wS hSw; (try dsimp only at hSw); go_simp; try with_reducible rfl)
          try simp only [Act.put, List.setIfInBounds_toArray, List.set_cons_zero, List.set_cons_succ]
          refine uTake (i := 6) (some 47) (v := ?_) rfl rfl (by kernel_rfl) (by kernel_rfl) (by kernel_rfl) (by kernel_rfl) (fun _ _ _ h => h) (by rfl) (by assumption) ?_ ?_
          rotate_left
          · (intro wS hSw; (try dsimp only at hSw); go_simp; try with_reducible rfl)
          try simp only [Act.put, List.setIfInBounds_toArray, List.set_cons_zero, List.set_cons_succ]
          refine uTake (i := 7) (some 48) (v := ?_) rfl rfl (by kernel_rfl) (by kernel_rfl) (by kernel_rfl) (by kernel_rfl) (fun _ _ _ h => h) (by rfl) (by assumption) ?_ ?_
          rotate_left
          · (intro wS hSw; (try dsimp only at hSw); go_simp; try with_reducible rfl)
          try simp only [Act.put, List.setIfInBounds_toArray, List.set_cons_zero, List.set_cons_succ]
          refine uTake (i := 8) (some 49) (v := .pointer (some ⟨pg, i + k, none⟩)) rfl rfl (by kernel_rfl) (by kernel_rfl) (by kernel_rfl) (by kernel_rfl) (fun _ _ _ h => h) (by rfl) (by assumption) ?_ ?_
          · (intro wS hSw; (try dsimp only at hSw); go_simp; rw [if_pos h0ik.out, htn.out])
          try simp only [Act.put, List.setIfInBounds_toArray, List.set_cons_zero, List.set_cons_succ]
          refine uTake (i := 9) (some 50) (v := ?_) rfl rfl (by kernel_rfl) (by kernel_rfl) (by kernel_rfl) (by kernel_rfl) (fun _ _ _ h => h) (by rfl) (by assumption) ?_ ?_
          rotate_left
          · (intro wS hSw; (try dsimp only at hSw); go_simp; try with_reducible rfl)
          try simp only [Act.put, List.setIfInBounds_toArray, List.set_cons_zero, List.set_cons_succ]
          refine uTake (i := 10) (some 51) (v := ?_) rfl rfl (by kernel_rfl) (by kernel_rfl) (by kernel_rfl) (by kernel_rfl) (fun _ _ _ h => h) (by rfl) (by assumption) ?_ ?_
          rotate_left
          · (intro wS hSw; (try dsimp only at hSw); go_simp; try with_reducible rfl)
          try simp only [Act.put, List.setIfInBounds_toArray, List.set_cons_zero, List.set_cons_succ]
          refine uTake (i := 11) (some 52) (v := ?_) rfl rfl (by kernel_rfl) (by kernel_rfl) (by kernel_rfl) (by kernel_rfl) (fun _ _ _ h => h) (by rfl) (by assumption) ?_ ?_
          rotate_left
          · (intro wS hSw; (try dsimp only at hSw); go_simp; try with_reducible rfl)
          try simp only [Act.put, List.setIfInBounds_toArray, List.set_cons_zero, List.set_cons_succ]
          refine uTake (i := 12) (some 53) (v := ?_) rfl rfl (by kernel_rfl) (by kernel_rfl) (by kernel_rfl) (by kernel_rfl) (fun _ _ _ h => h) (by rfl) (by assumption) ?_ ?_
          rotate_left
          · (intro wS hSw; (try dsimp only at hSw); go_simp; try with_reducible rfl)
          try simp only [Act.put, List.setIfInBounds_toArray, List.set_cons_zero, List.set_cons_succ]
          refine uTake (i := 15) (some 56) (v := ?_) rfl rfl (by kernel_rfl) (by kernel_rfl) (by kernel_rfl) (by kernel_rfl) (fun _ _ _ h => h) (by rfl) (by assumption) ?_ ?_
          rotate_left
          · (intro wS hSw; (try dsimp only at hSw); go_simp; try with_reducible rfl)
          try simp only [Act.put, List.setIfInBounds_toArray, List.set_cons_zero, List.set_cons_succ]
          refine uReady (rs := [13]) (by kernel_rfl) (by simp) ?_
          refine ReadyU.cons rfl (fun KK hKK => ?_) ReadyU.nil
          go_simp
          refine (polmulB q a[i] b[k] _ haq hbq HT.out).mono ?_
          rintro e w2 ⟨⟨r, rh, rfl⟩, hb⟩
          have E5 : Hid (Env D w [(pg, 3, (ncl p))] [.ce yab (yao + k) (.int .i64 (b[k] : Nat)), .rw (.slice (some ⟨yab, yao, none⟩) b.length yk) b.length 1 (ncl b), .rw (.slice (some ⟨xab, xao, none⟩) a.length xk) a.length 1 (ncl a)] w2) := Lib.hid (E4.out.below hb)
          clear E4 hb
          have hrq : (r : Int) < (q : Int) := by rw [rh.out]; exact Int.ofNat_lt.2 (Nat.mod_lt _ hq)
          have hw : IntKind.i64.wrap (((p[i + k] : Nat) : Int) + (r : Int)) = ((p[i + k] + r : Nat) : Int) := wrapI_res hpi hrq hq9
          (try dsimp only)
          clear hHeld
          refine hKK.out _ _ ((E5.out.bx 0 rfl).cell (i + k) (ncl_get p (i + k) hik)) (fun hHeld => ?_)
          clear hKK KK
          try simp only [Act.put, List.setIfInBounds_toArray, List.set_cons_zero, List.set_cons_succ]
          refine uTake (i := 14) (some 55) (v := .int .i64 ((p[i + k] + r : Nat) : Int)) rfl rfl (by kernel_rfl) (by kernel_rfl) (by kernel_rfl) (by kernel_rfl) (fun _ _ _ h => h) (by rfl) (by assumption) ?_ ?_
          · (intro wS hSw; (try dsimp only at hSw); go_simp)
          try simp only [Act.put, List.setIfInBounds_toArray, List.set_cons_zero, List.set_cons_succ]
          refine uTake (i := 16) (some 57) (v := .int .i64 (((p[i + k] + r) % q : Nat) : Int)) rfl rfl (by kernel_rfl) (by kernel_rfl) (by kernel_rfl) (by kernel_rfl) (fun _ _ _ h => h) (by rfl) (by assumption) ?_ ?_
          · (intro wS hSw; (try dsimp only at hSw); go_simp; exact Int.tmod_eq_emod_of_nonneg (by omega))
          try simp only [Act.put, List.setIfInBounds_toArray, List.set_cons_zero, List.set_cons_succ]
          refine uTake (i := 17) (some 58) (v := .pointer (some ⟨pg, i + k, none⟩)) rfl rfl (by kernel_rfl) (by kernel_rfl) (by kernel_rfl) (by kernel_rfl) (fun _ _ _ h => h) (by rfl) (by assumption) ?_ ?_
          · (intro wS hSw; (try dsimp only at hSw); go_simp; rw [if_pos h0ik.out, htn.out])
          try simp only [Act.put, List.setIfInBounds_toArray, List.set_cons_zero, List.set_cons_succ]
          have fz := (E5.out.bx 0 rfl).frozen (i + k)
          refine uReady (rs := [18]) (by kernel_rfl) (by simp) ?_
          refine ReadyU.consU (by kernel_rfl) rfl (fun KK hKK => ?_) ReadyU.nil
          go_simp
          have E6 : Hid (Env D w [(pg, 3, ((ncl p).set (i + k) (.int .i64 ((p[i + k] + r) % q : Nat))))] [.ce yab (yao + k) (.int .i64 (b[k] : Nat)), .rw (.slice (some ⟨yab, yao, none⟩) b.length yk) b.length 1 (ncl b), .rw (.slice (some ⟨xab, xao, none⟩) a.length xk) a.length 1 (ncl a)] _) := Lib.hid ((E5.out.set 0 (i + k) (.int .i64 ((p[i + k] + r) % q : Nat)) rfl))
          (try dsimp only)
          (try clear hHeld)
          refine hKK.out _ _ ?_
          clear hKK KK
          try simp only [Act.put, List.setIfInBounds_toArray, List.set_cons_zero, List.set_cons_succ]
          refine uDone (by kernel_rfl) ?_ _
          have E7 : Hid (Env D w [(pg, 3, (ncl (p.set (i + k) ((p[i + k] + r) % q))))] [.ce yab (yao + k) (.int .i64 (b[k] : Nat)), .rw (.slice (some ⟨yab, yao, none⟩) b.length yk) b.length 1 (ncl b), .rw (.slice (some ⟨xab, xao, none⟩) a.length xk) a.length 1 (ncl a)] _) := Lib.hid (by have h := E6.out; rw [ncl_set] at h; exact h)
          have HNX := Lib.hid (mulRow_step (q := q) (o0 := o) hi hk (by rw [← HP.out]; exact hik) rh.out)
          have EZ := Lib.hid (E7.out.forget)
          go_wp2
          go_roundg (b.length - (k + 1))
          case rel => exact ⟨k + 1, p.set (i + k) ((p[i + k] + r) % q), rfl, EZ, Lib.hid ⟨⟨by omega, rfl⟩, by rw [← HNX.out]; congr 1 <;> (first | exact HP.out | (congr 2; exact getElem_congr_coll HP.out))⟩⟩
          case measure => exact by omega
        have t8 : decide ((k : Int) < (b.length : Int)) = false := decide_eq_false (by omega)
        have t9 : decide (k < b.length) = false := decide_eq_false (by omega)
        have HD : Hid (p = mulTo q a b (i + 1)) := Lib.hid (by rw [HP.out, hy, HS.out]; rfl)
        have HY := Lib.hid hy
        clear hy
        have EZ := Lib.hid EL.out
        go_wp2
        go_roundg (a.length - (i + 1))
        case rel => exact ⟨i + 1, p, rfl, EZ, Lib.hid ⟨⟨by omega, rfl⟩, HD.out⟩⟩
        case measure => exact by omega
    have t6 : decide ((i : Int) < (a.length : Int)) = false := decide_eq_false (by omega)
    have t7 : decide (i < a.length) = false := decide_eq_false (by omega)
    have HD : Hid (o = mulTo q a b a.length) := Lib.hid (by rw [HS.out, hy])
    have HY := Lib.hid hy
    clear hy
    have tc := trim_c (xa := some ⟨pg, 0, none⟩) (xk := n) (w := wr) o (Rw.boxP (EL.out.bx 0 rfl) (by have := HOL.out; omega) (by omega)) (by have := HOL.out; omega)
    rw [HOL.out] at tc
    have TC := Lib.hid tc
    clear tc
    have hsz := Lib.hid EL.out.bel.size
    go_wp2_with fail
    refine (TC.out).mono ?_
    rintro e w1 ⟨⟨za, zk, rfl, zh⟩, hb⟩
    have E1 : Hid (Env D w [(pg, 3, (ncl o))] [.rw (.slice ya b.length yk) b.length 1 (ncl b), .rw (.slice xa a.length xk) a.length 1 (ncl a)] w1) := Lib.hid (EL.out.below hb)
    clear EL hb
    have hbel := Lib.hid E1.out.bel
    go_wp2
    go_ret
    rw [← HD.out]
    exact ⟨⟨za, zk, rfl, Lib.hid (Rw.from zh.out hsz.out)⟩, hbel.out⟩
theorem product_c {D : Nat → Prop} (q : Nat) (a b : List Nat) {xa ya : Option Addr} {xk yk : Nat} {w : World} (hx : Fct.at w D (.rw (.slice xa a.length xk) a.length 1 (ncl a))) (hy : Fct.at w D (.rw (.slice ya b.length yk) b.length 1 (ncl b))) (hq : 0 < q) (hqT : (q : Int) < Top) (ha : ∀ c ∈ a, c < q) (hb : ∀ c ∈ b, c < q) (hla : a.length ≤ 1000) (hlb : b.length ≤ 1000) :
    Calls Tryd.prog 63 #[.int .i64 (q : Nat), .slice xa a.length xk, .slice ya b.length yk] w fun e w' => RetI (fun b => w.heap.size ≤ b) (trimN (mulL q a b)) e w' ∧ Below w.heap.size w w' := by
  unfold mulL
  by_cases h : a.length = 0
  · rw [if_pos (.inl h)]; exact (prod_a q a b hx hy hq hqT ha hb hla hlb h).mono fun e w' ⟨he, hw⟩ => ⟨⟨none, 0, he, Lib.hid (Rw.nil _ _ _)⟩, hw⟩
  · by_cases h2 : b.length = 0
    · rw [if_pos (.inr h2)]; exact (prod_b q a b hx hy hq hqT ha hb hla hlb (by omega) h2).mono fun e w' ⟨he, hw⟩ => ⟨⟨none, 0, he, Lib.hid (Rw.nil _ _ _)⟩, hw⟩
    · rw [if_neg (by omega)]; exact prod_c q a b hx hy hq hqT ha hb hla hlb (by omega) (by omega)
set_option maxRecDepth 100000 in
set_option maxHeartbeats 1000000 in
theorem PMul_no {D : Nat → Prop} (q : Int) (a b : List Int) {xa ya : Option Addr} {xk yk : Nat} {w : World} (hx : Fct.at w D (.rw (.slice xa a.length xk) a.length 1 (icl a))) (hy : Fct.at w D (.rw (.slice ya b.length yk) b.length 1 (icl b))) (hl0 : Laid w) (hn : -9223372036854775808 ≤ q ∧ q ≤ 9223372036854775807) (hv0 : validB q [a, b] = false) :
    Calls Tryd.prog 29 #[.int .i64 q, .slice xa a.length xk, .slice ya b.length yk] w fun e w' => e = .returned (.tuple #[.slice none 0 0, .int .i64 1]) ∧ Below w.heap.size w w' := by
  have E0 : Hid (Env D w [] [.rw (.slice ya b.length yk) b.length 1 (icl b), .rw (.slice xa a.length xk) a.length 1 (icl a)] w) := Lib.hid (((Env.start D w).arg (.rw (.slice xa a.length xk) a.length 1 (icl a)) hx).arg (.rw (.slice ya b.length yk) b.length 1 (icl b)) hy)
  clear hx hy
  go_enter Tryd.func29, Tryd.ntmps29
  have hl := Lib.hid hl0
  have hv := Lib.hid hv0
  clear hl0 hv0
  have E1 : Hid (Env D w [(w.heap.size, 22, [.slice xa a.length xk, .slice ya b.length yk])] [.rw (.slice ya b.length yk) b.length 1 (icl b), .rw (.slice xa a.length xk) a.length 1 (icl a)] _) := Lib.hid ((E0.out.push 22 [.slice xa a.length xk, .slice ya b.length yk] (w.heap.size) (by simp)))
  go_wp2_with fail
  refine (valid_c q [a, b] (Mx.box2 (E1.out.bx 0 rfl) (E1.out.fc 1 rfl) (E1.out.fc 0 rfl)) (hl.out.below E1.out.bel) hn hv.out (by simp)).mono ?_
  rintro e w1 ⟨rfl, hb⟩
  have E2 : Hid (Env D w [(w.heap.size, 22, [.slice xa a.length xk, .slice ya b.length yk])] [.rw (.slice ya b.length yk) b.length 1 (icl b), .rw (.slice xa a.length xk) a.length 1 (icl a)] w1) := Lib.hid (E1.out.below hb)
  clear E0 E1 hb
  have hfin := Lib.hid E2.out.bel
  go_wp2
  go_ret2
  exact ⟨rfl, hfin.out⟩
set_option maxRecDepth 100000 in
set_option maxHeartbeats 1000000 in
theorem PMul_a {D : Nat → Prop} (q : Nat) (a b : List Nat) {xa ya : Option Addr} {xk yk : Nat} {w : World} (hx : Fct.at w D (.rw (.slice xa a.length xk) a.length 1 (ncl a))) (hy : Fct.at w D (.rw (.slice ya b.length yk) b.length 1 (ncl b))) (hl0 : Laid w) (hv0 : validB q [nl a, nl b] = true) (hq : 0 < q) (hqT : (q : Int) < Top) (ha0 : ∀ c ∈ a, c < q) (hb0 : ∀ c ∈ b, c < q) (hla : a.length ≤ 1000) (hlb : b.length ≤ 1000) (hz : a.length = 0) :
    Calls Tryd.prog 29 #[.int .i64 (q : Nat), .slice xa a.length xk, .slice ya b.length yk] w fun e w' => RetIE (fun b => w.heap.size ≤ b) (trimN (mulL q a b)) 0 e w' ∧ Below w.heap.size w w' := by
  have E0 : Hid (Env D w [] [.rw (.slice ya b.length yk) b.length 1 (ncl b), .rw (.slice xa a.length xk) a.length 1 (ncl a)] w) := Lib.hid (((Env.start D w).arg (.rw (.slice xa a.length xk) a.length 1 (ncl a)) hx).arg (.rw (.slice ya b.length yk) b.length 1 (ncl b)) hy)
  clear hx hy
  go_enter Tryd.func29, Tryd.ntmps29
  have hq2 : -9223372036854775808 ≤ (q : Int) ∧ (q : Int) ≤ 9223372036854775807 := by unfold Top at hqT; omega
  have HT := Lib.hid hqT
  clear hqT
  have hl := Lib.hid hl0
  have hv := Lib.hid hv0
  have ha := Lib.hid ha0
  have hb := Lib.hid hb0
  clear hl0 hv0 ha0 hb0
  obtain rfl := List.length_eq_zero_iff.1 hz
  have dz : decide ((0 : Int) < (([] : List Nat).length : Int)) = false := rfl
  have E1 : Hid (Env D w [(w.heap.size, 22, [.slice xa ([] : List Nat).length xk, .slice ya b.length yk])] [.rw (.slice ya b.length yk) b.length 1 (ncl b), .rw (.slice xa ([] : List Nat).length xk) ([] : List Nat).length 1 (ncl ([] : List Nat))] _) := Lib.hid ((E0.out.push 22 [.slice xa ([] : List Nat).length xk, .slice ya b.length yk] (w.heap.size) (by simp)))
  go_wp2_with fail
  refine (valid_c q [nl ([] : List Nat), nl b] (Mx.box2 (E1.out.bx 0 rfl) (Rw.toNl (E1.out.fc 1 rfl)) (Rw.toNl (E1.out.fc 0 rfl))) (hl.out.below E1.out.bel) hq2 hv.out (by simp)).mono ?_
  rintro e w1 ⟨rfl, hb⟩
  have E2 : Hid (Env D w [(w.heap.size, 22, [.slice xa ([] : List Nat).length xk, .slice ya b.length yk])] [.rw (.slice ya b.length yk) b.length 1 (ncl b), .rw (.slice xa ([] : List Nat).length xk) ([] : List Nat).length 1 (ncl ([] : List Nat))] w1) := Lib.hid (E1.out.below hb)
  clear E0 E1 hb
  have hsz := Lib.hid E2.out.bel.size
  go_wp2_with fail
  refine (product_c q ([] : List Nat) b (E2.out.fc 1 rfl) (E2.out.fc 0 rfl) hq HT.out ha.out hb.out hla hlb).mono ?_
  rintro e w2 ⟨⟨za, zk, rfl, zh⟩, hb⟩
  have E3 : Hid (Env D w [(w.heap.size, 22, [.slice xa ([] : List Nat).length xk, .slice ya b.length yk])] [.rw (.slice ya b.length yk) b.length 1 (ncl b), .rw (.slice xa ([] : List Nat).length xk) ([] : List Nat).length 1 (ncl ([] : List Nat))] w2) := Lib.hid (E2.out.below hb)
  clear E2 hb
  have hbel := Lib.hid E3.out.bel
  go_wp2
  go_ret2
  exact ⟨⟨za, zk, rfl, Lib.hid (Rw.from zh.out hsz.out)⟩, hbel.out⟩
set_option maxRecDepth 100000 in
set_option maxHeartbeats 1000000 in
theorem PMul_b {D : Nat → Prop} (q : Nat) (a b : List Nat) {xa ya : Option Addr} {xk yk : Nat} {w : World} (hx : Fct.at w D (.rw (.slice xa a.length xk) a.length 1 (ncl a))) (hy : Fct.at w D (.rw (.slice ya b.length yk) b.length 1 (ncl b))) (hl0 : Laid w) (hv0 : validB q [nl a, nl b] = true) (hq : 0 < q) (hqT : (q : Int) < Top) (ha0 : ∀ c ∈ a, c < q) (hb0 : ∀ c ∈ b, c < q) (hla : a.length ≤ 1000) (hlb : b.length ≤ 1000) (hz : 0 < a.length) (hz2 : b.length = 0) :
    Calls Tryd.prog 29 #[.int .i64 (q : Nat), .slice xa a.length xk, .slice ya b.length yk] w fun e w' => RetIE (fun b => w.heap.size ≤ b) (trimN (mulL q a b)) 0 e w' ∧ Below w.heap.size w w' := by
  have E0 : Hid (Env D w [] [.rw (.slice ya b.length yk) b.length 1 (ncl b), .rw (.slice xa a.length xk) a.length 1 (ncl a)] w) := Lib.hid (((Env.start D w).arg (.rw (.slice xa a.length xk) a.length 1 (ncl a)) hx).arg (.rw (.slice ya b.length yk) b.length 1 (ncl b)) hy)
  clear hx hy
  go_enter Tryd.func29, Tryd.ntmps29
  have hq2 : -9223372036854775808 ≤ (q : Int) ∧ (q : Int) ≤ 9223372036854775807 := by unfold Top at hqT; omega
  have HT := Lib.hid hqT
  clear hqT
  have hl := Lib.hid hl0
  have hv := Lib.hid hv0
  have ha := Lib.hid ha0
  have hb := Lib.hid hb0
  clear hl0 hv0 ha0 hb0
  have d0 : decide ((0 : Int) < (a.length : Int)) = true := decide_eq_true (by omega)
  obtain rfl := List.length_eq_zero_iff.1 hz2
  have dz : decide ((0 : Int) < (([] : List Nat).length : Int)) = false := rfl
  have E1 : Hid (Env D w [(w.heap.size, 22, [.slice xa a.length xk, .slice ya ([] : List Nat).length yk])] [.rw (.slice ya ([] : List Nat).length yk) ([] : List Nat).length 1 (ncl ([] : List Nat)), .rw (.slice xa a.length xk) a.length 1 (ncl a)] _) := Lib.hid ((E0.out.push 22 [.slice xa a.length xk, .slice ya ([] : List Nat).length yk] (w.heap.size) (by simp)))
  go_wp2_with fail
  refine (valid_c q [nl a, nl ([] : List Nat)] (Mx.box2 (E1.out.bx 0 rfl) (Rw.toNl (E1.out.fc 1 rfl)) (Rw.toNl (E1.out.fc 0 rfl))) (hl.out.below E1.out.bel) hq2 hv.out (by simp)).mono ?_
  rintro e w1 ⟨rfl, hb⟩
  have E2 : Hid (Env D w [(w.heap.size, 22, [.slice xa a.length xk, .slice ya ([] : List Nat).length yk])] [.rw (.slice ya ([] : List Nat).length yk) ([] : List Nat).length 1 (ncl ([] : List Nat)), .rw (.slice xa a.length xk) a.length 1 (ncl a)] w1) := Lib.hid (E1.out.below hb)
  clear E0 E1 hb
  have hsz := Lib.hid E2.out.bel.size
  go_wp2_with fail
  refine (product_c q a ([] : List Nat) (E2.out.fc 1 rfl) (E2.out.fc 0 rfl) hq HT.out ha.out hb.out hla hlb).mono ?_
  rintro e w2 ⟨⟨za, zk, rfl, zh⟩, hb⟩
  have E3 : Hid (Env D w [(w.heap.size, 22, [.slice xa a.length xk, .slice ya ([] : List Nat).length yk])] [.rw (.slice ya ([] : List Nat).length yk) ([] : List Nat).length 1 (ncl ([] : List Nat)), .rw (.slice xa a.length xk) a.length 1 (ncl a)] w2) := Lib.hid (E2.out.below hb)
  clear E2 hb
  have hbel := Lib.hid E3.out.bel
  go_wp2
  go_ret2
  exact ⟨⟨za, zk, rfl, Lib.hid (Rw.from zh.out hsz.out)⟩, hbel.out⟩
set_option maxRecDepth 100000 in
set_option maxHeartbeats 1000000 in
theorem PMul_c {D : Nat → Prop} (q : Nat) (a b : List Nat) {xa ya : Option Addr} {xk yk : Nat} {w : World} (hx : Fct.at w D (.rw (.slice xa a.length xk) a.length 1 (ncl a))) (hy : Fct.at w D (.rw (.slice ya b.length yk) b.length 1 (ncl b))) (hl0 : Laid w) (hv0 : validB q [nl a, nl b] = true) (hq : 0 < q) (hqT : (q : Int) < Top) (ha0 : ∀ c ∈ a, c < q) (hb0 : ∀ c ∈ b, c < q) (hla : a.length ≤ 1000) (hlb : b.length ≤ 1000) (hz : 0 < a.length) (hz2 : 0 < b.length) (hz3 : a.length + b.length ≤ 1000) :
    Calls Tryd.prog 29 #[.int .i64 (q : Nat), .slice xa a.length xk, .slice ya b.length yk] w fun e w' => RetIE (fun b => w.heap.size ≤ b) (trimN (mulL q a b)) 0 e w' ∧ Below w.heap.size w w' := by
  have E0 : Hid (Env D w [] [.rw (.slice ya b.length yk) b.length 1 (ncl b), .rw (.slice xa a.length xk) a.length 1 (ncl a)] w) := Lib.hid (((Env.start D w).arg (.rw (.slice xa a.length xk) a.length 1 (ncl a)) hx).arg (.rw (.slice ya b.length yk) b.length 1 (ncl b)) hy)
  clear hx hy
  go_enter Tryd.func29, Tryd.ntmps29
  have hq2 : -9223372036854775808 ≤ (q : Int) ∧ (q : Int) ≤ 9223372036854775807 := by unfold Top at hqT; omega
  have HT := Lib.hid hqT
  clear hqT
  have hl := Lib.hid hl0
  have hv := Lib.hid hv0
  have ha := Lib.hid ha0
  have hb := Lib.hid hb0
  clear hl0 hv0 ha0 hb0
  have d0 : decide ((0 : Int) < (a.length : Int)) = true := decide_eq_true (by omega)
  have d1 : decide ((0 : Int) < (b.length : Int)) = true := decide_eq_true (by omega)
  have d2 : decide ((1000 : Int) < wrap64 (wrap64 ((a.length : Int) + (b.length : Int)) - 1)) = false := by rw [IntWalk.wrap64_in ((a.length : Int) + (b.length : Int)) (by omega), IntWalk.wrap64_in _ (by omega)]; exact decide_eq_false (by omega)
  have d3 : decide ((1000 : Int) < (a.length : Int) + (b.length : Int) - 1) = false := decide_eq_false (by omega)
  have d4 : wrap64 ((a.length : Int) + (b.length : Int) - 1) = (a.length : Int) + (b.length : Int) - 1 := IntWalk.wrap64_in _ (by omega)
  have E1 : Hid (Env D w [(w.heap.size, 22, [.slice xa a.length xk, .slice ya b.length yk])] [.rw (.slice ya b.length yk) b.length 1 (ncl b), .rw (.slice xa a.length xk) a.length 1 (ncl a)] _) := Lib.hid ((E0.out.push 22 [.slice xa a.length xk, .slice ya b.length yk] (w.heap.size) (by simp)))
  go_wp2_with fail
  refine (valid_c q [nl a, nl b] (Mx.box2 (E1.out.bx 0 rfl) (Rw.toNl (E1.out.fc 1 rfl)) (Rw.toNl (E1.out.fc 0 rfl))) (hl.out.below E1.out.bel) hq2 hv.out (by simp)).mono ?_
  rintro e w1 ⟨rfl, hb⟩
  have E2 : Hid (Env D w [(w.heap.size, 22, [.slice xa a.length xk, .slice ya b.length yk])] [.rw (.slice ya b.length yk) b.length 1 (ncl b), .rw (.slice xa a.length xk) a.length 1 (ncl a)] w1) := Lib.hid (E1.out.below hb)
  clear E0 E1 hb
  have hsz := Lib.hid E2.out.bel.size
  go_wp2_with fail
  refine (product_c q a b (E2.out.fc 1 rfl) (E2.out.fc 0 rfl) hq HT.out ha.out hb.out hla hlb).mono ?_
  rintro e w2 ⟨⟨za, zk, rfl, zh⟩, hb⟩
  have E3 : Hid (Env D w [(w.heap.size, 22, [.slice xa a.length xk, .slice ya b.length yk])] [.rw (.slice ya b.length yk) b.length 1 (ncl b), .rw (.slice xa a.length xk) a.length 1 (ncl a)] w2) := Lib.hid (E2.out.below hb)
  clear E2 hb
  have hbel := Lib.hid E3.out.bel
  go_wp2
  go_ret2
  exact ⟨⟨za, zk, rfl, Lib.hid (Rw.from zh.out hsz.out)⟩, hbel.out⟩
theorem PMul_ok {D : Nat → Prop} (q : Nat) (a b : List Nat) {xa ya : Option Addr} {xk yk : Nat} {w : World} (hx : Fct.at w D (.rw (.slice xa a.length xk) a.length 1 (ncl a))) (hy : Fct.at w D (.rw (.slice ya b.length yk) b.length 1 (ncl b))) (hl : Laid w) (hv : validB q [nl a, nl b] = true) (hq : 0 < q) (hqT : (q : Int) < Top) (ha : ∀ c ∈ a, c < q) (hb : ∀ c ∈ b, c < q) (hla : a.length ≤ 1000) (hlb : b.length ≤ 1000) (hz3 : a.length + b.length ≤ 1000) :
    Calls Tryd.prog 29 #[.int .i64 (q : Nat), .slice xa a.length xk, .slice ya b.length yk] w fun e w' => RetIE (fun b => w.heap.size ≤ b) (trimN (mulL q a b)) 0 e w' ∧ Below w.heap.size w w' := by
  by_cases h : a.length = 0
  · exact PMul_a q a b hx hy hl hv hq hqT ha hb hla hlb h
  · by_cases h2 : b.length = 0
    · exact PMul_b q a b hx hy hl hv hq hqT ha hb hla hlb (by omega) h2
    · exact PMul_c q a b hx hy hl hv hq hqT ha hb hla hlb (by omega) (by omega) hz3
end Go.Proofs.YteipbcpnnojclaaDoor

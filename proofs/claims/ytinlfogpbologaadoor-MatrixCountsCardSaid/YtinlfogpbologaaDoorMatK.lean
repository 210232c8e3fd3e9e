/- matrices: columns, Apply; the reference: scaled, added. -/
import Derived.Test.YtinlfogpbologaaDoorMatJ
import Derived.Test.YtinlfogpbologaaDoorMatB
namespace Go.Proofs.YtinlfogpbologaaDoor
open Go.RowKit DivMath WordMath
set_option linter.unusedVariables false
set_option linter.unusedSimpArgs false
def tab (f : Nat → Nat) (k : Nat) : List Nat := (List.range k).map f
theorem tab_len (f : Nat → Nat) (k : Nat) : (tab f k).length = k := by simp [tab]
theorem tab_snoc {f : Nat → Nat} {k x : Nat} (h : f k = x) : tab f k ++ [x] = tab f (k + 1) := by unfold tab; rw [List.range_succ, List.map_append, List.map_singleton, h]
theorem tab_lt {f : Nat → Nat} {k q : Nat} (h : ∀ i, i < k → f i < q) : ∀ c ∈ tab f k, c < q := by
  intro c hc
  obtain ⟨i, hi, rfl⟩ := List.mem_map.1 hc
  exact h i (List.mem_range.1 hi)
theorem tab_nil (f : Nat → Nat) : [] = tab f 0 := rfl
theorem tab_get {f : Nat → Nat} {k i : Nat} (h : i < k) : (tab f k)[i]? = some (f i) := by unfold tab; rw [List.getElem?_map, List.getElem?_range h]; rfl
/-- a column, a product with a vector -/
def colF (L : List (List Nat)) (j i : Nat) : Nat := (L.getD i []).getD j 0
def colT (L : List (List Nat)) (j : Nat) : List Nat := tab (colF L j) L.length
def appF (q : Nat) (L : List (List Nat)) (x : List Nat) (i : Nat) : Nat := dotN q (L.getD i []) x x.length
def appT (q : Nat) (L : List (List Nat)) (x : List Nat) : List Nat := tab (appF q L x) L.length
theorem getL_elem {L : List (List Nat)} {i : Nat} (h : i < L.length) : L.getD i [] = L[i] := getD_of (List.getElem?_eq_getElem h)
theorem sclN_tab {q c : Nat} {r : List Nat} : sclN q r c = tab (fun j => r.getD j 0 * c % q) r.length := by
  apply List.ext_getElem?
  intro j
  by_cases h : j < r.length
  · rw [sclN_get h, tab_get h]; rw [getD_elem h]
  · rw [List.getElem?_eq_none (by rw [sclN_len]; omega), List.getElem?_eq_none (by rw [tab_len]; omega)]
theorem admN_tab {q f : Nat} {r o : List Nat} : admN q r f o = tab (fun j => (r.getD j 0 + f * o.getD j 0 % q) % q) r.length := rfl
set_option maxRecDepth 100000 in
set_option maxHeartbeats 2000000 in
theorem mcolumn_c {D : Nat → Prop} (L : List (List Nat)) (j : Nat) {xa : Option Addr} {xk : Nat} {w : World} (hx : Fct.at w D (.mx (.slice xa L.length xk) (L.map nl))) (hL : L.length ≤ 1000) (hj0 : ∀ r ∈ L, j < r.length) :
    Calls Tryd.prog 85 #[.slice xa L.length xk, .int .i64 (j : Nat)] w fun e w' => RetI (fun b => w.heap.size ≤ b) (colT L j) e w' ∧ Below w.heap.size w w' := by
  have E0 : Hid (Env D w [] [.mx (.slice xa L.length xk) (L.map nl)] w) := Lib.hid ((Env.start D w).arg (.mx (.slice xa L.length xk) (L.map nl)) hx)
  clear hx
  go_enter Tryd.func85, Tryd.ntmps85
  have hj := Lib.hid hj0
  clear hj0
  go_wp2_with fail
  go_loopg [10, 5] (L.length) (fun gk s10 s5 wr => ∃ (k : Nat) (sg : List Bx) (cs : List Value) (va : Option Addr) (vk : Nat) (o : List Nat), s10 = .int .i64 (k : Int) ∧ s5 = .slice va o.length vk ∧ Hid (Env D w sg [.mx (.slice xa L.length xk) (L.map nl)] wr) ∧ Hid (OI sg cs (.slice va o.length vk) (nl o)) ∧ Hid ((k ≤ L.length ∧ gk = L.length - k) ∧ o = tab (colF L j) k))
  case atStart => exact ⟨0, [], [], none, 0, [], rfl, rfl, Lib.hid (E0.out.cast (by simp)), Lib.hid OI.nlnil, Lib.hid ⟨⟨Nat.zero_le _, rfl⟩, rfl⟩⟩
  case round =>
    clear E0
    obtain ⟨k, sg, cs, va, vk, o, rfl, rfl, EL, hO, HA⟩ := hrel
    obtain ⟨⟨a1, a2⟩, a3⟩ := HA.out
    have HP := Lib.hid a3
    clear a3 HA
    by_cases hy : k = L.length
    · skip
      have t6 : decide ((k : Int) < (L.length : Int)) = false := decide_eq_false (by omega)
      have t6n : decide (k < L.length) = false := decide_eq_false (by omega)
      have HD : Hid (o = colT L j) := Lib.hid (by rw [HP.out, hy]; rfl)
      clear hy
      have hres := Lib.hid (OI.rwN hO.out EL.out (by intro p hp; simp [hp]))
      have hbel := Lib.hid EL.out.bel
      go_wp2
      go_ret
      exact ⟨⟨va, vk, by rw [← HD.out]; rfl, Lib.hid (by rw [← HD.out]; exact hres.out)⟩, hbel.out⟩
    have hk : k < L.length := by omega
    have t6 : decide ((k : Int) < (L.length : Int)) = true := decide_eq_true (by omega)
    have t6n : decide (k < L.length) = true := decide_eq_true (by omega)
    have hkI : (k : Int) < (L.length : Int) := by omega
    clear hy
    have hol : o.length + 1 ≤ 1000000 := by rw [HP.out, tab_len]; omega
    have HOL := Lib.hid hol
    clear hol
    go_upto_region 4 with (fail)
    obtain ⟨xab, xao, rfl⟩ := Mx.addrN (EL.out.fc 0 rfl) hk
    obtain ⟨ua, uk, E10⟩ := EL.out.elMN 0 rfl (k) hk
    have E1 : Hid (Env D w sg [.ce xab (xao + k) (.slice ua L[k].length uk), .rw (.slice ua L[k].length uk) L[k].length 1 (ncl L[k]), .mx (.slice (some ⟨xab, xao, none⟩) L.length xk) (L.map nl)] _) := Lib.hid E10
    clear E10 EL
    have u0 := (E1.out.fc 0 rfl).2
    have hjk : j < L[k].length := hj.out _ (List.getElem_mem hk)
    have hjkI : (j : Int) < (L[k].length : Int) := by omega
    obtain ⟨uab, uao, rfl⟩ := Rw.addr (E1.out.fc 1 rfl) (by omega)
    have E2 : Hid (Env D w sg [.ce uab (uao + j) (.int .i64 (L[k][j] : Nat)), .ce xab (xao + k) (.slice (some ⟨uab, uao, none⟩) L[k].length uk), .rw (.slice (some ⟨uab, uao, none⟩) L[k].length uk) L[k].length 1 (ncl L[k]), .mx (.slice (some ⟨xab, xao, none⟩) L.length xk) (L.map nl)] _) := Lib.hid (E1.out.elN 1 rfl rfl (j) hjk)
    clear E1
    have v0 := (E2.out.fc 0 rfl).2
    have E3 : Hid (Env D w ((wr.heap.size, 3, [.int .i64 (L[k][j] : Nat)]) :: sg) [.ce uab (uao + j) (.int .i64 (L[k][j] : Nat)), .ce xab (xao + k) (.slice (some ⟨uab, uao, none⟩) L[k].length uk), .rw (.slice (some ⟨uab, uao, none⟩) L[k].length uk) L[k].length 1 (ncl L[k]), .mx (.slice (some ⟨xab, xao, none⟩) L.length xk) (L.map nl)] _) := Lib.hid ((E2.out.push 3 [.int .i64 (L[k][j] : Nat)] (wr.heap.size) (by simp)))
    go_wp2_with (at_builtin; refine wpl_app1 (c := 1) tiI rfl _ _ rfl E3.out (A := [(wr.heap.size, 3, [.int .i64 (L[k][j] : Nat)])]) (sg := sg) (B' := []) (F := ((wr.heap.size, 3, [.int .i64 (L[k][j] : Nat)]) :: sg)) (by simp) (hO.out.os (nl_len o)) rfl rfl (SrcN.int (E3.out.bx 0 rfl)) HOL.out ?_)
    intro ng np nc w1 nH nT nE
    have nO := Lib.hid (OI.app (x := ((L[k][j] : Nat) : Int)) (g' := ng) (cs' := nc) (cap' := np) hO.out (nl_len o) (by simpa using nH.out) (by simpa using nT.out))
    have E4 : Hid (Env D w ((wr.heap.size, 3, [.int .i64 (L[k][j] : Nat)]) :: [(ng, 3, nc)]) [.ce uab (uao + j) (.int .i64 (L[k][j] : Nat)), .ce xab (xao + k) (.slice (some ⟨uab, uao, none⟩) L[k].length uk), .rw (.slice (some ⟨uab, uao, none⟩) L[k].length uk) L[k].length 1 (ncl L[k]), .mx (.slice (some ⟨xab, xao, none⟩) L.length xk) (L.map nl)] w1) := Lib.hid (nE.out.cast (by simp))
    clear u0 v0 E2 E3 nE nH nT hO
    have OZ : Hid (OI [(ng, 3, nc)] nc (.slice (some ⟨ng, 0, none⟩) (o ++ [L[k][j]]).length np) (nl (o ++ [L[k][j]]))) := Lib.hid (by rw [show nl (o ++ [L[k][j]]) = nl o ++ [((L[k][j] : Nat) : Int)] from by simp [nl], List.length_append, List.length_singleton]; exact nO.out)
    have EZ := Lib.hid ((((E4.out.drop).forget).forget).forget)
    go_wp2
    go_roundg (L.length - (k + 1))
    case rel => exact ⟨k + 1, [(ng, 3, nc)], nc, some ⟨ng, 0, none⟩, np, o ++ [L[k][j]], rfl, by simp, Lib.hid (EZ.out.cast (by simp)), OZ, Lib.hid ⟨⟨by omega, rfl⟩, by rw [HP.out]; exact tab_snoc (by unfold colF; rw [getL_elem hk, getD_elem hjk])⟩⟩
    case measure => exact by omega
set_option maxRecDepth 100000 in
set_option maxHeartbeats 2000000 in
theorem rcolumn_c {D : Nat → Prop} (L : List (List Nat)) (j : Nat) {xa : Option Addr} {xk : Nat} {w : World} (hx : Fct.at w D (.mx (.slice xa L.length xk) (L.map nl))) (hL : L.length ≤ 1000) (hj0 : ∀ r ∈ L, j < r.length) :
    Calls Tryd.prog 88 #[.slice xa L.length xk, .int .i64 (j : Nat)] w fun e w' => RetI (fun b => w.heap.size ≤ b) (colT L j) e w' ∧ Below w.heap.size w w' := by
  have E0 : Hid (Env D w [] [.mx (.slice xa L.length xk) (L.map nl)] w) := Lib.hid ((Env.start D w).arg (.mx (.slice xa L.length xk) (L.map nl)) hx)
  clear hx
  go_enter Tryd.func88, Tryd.ntmps88
  have hj := Lib.hid hj0
  clear hj0
  go_wp2_with fail
  go_loopg [6, 5] (L.length) (fun gk s6 s5 wr => ∃ (k : Nat) (sg : List Bx) (cs : List Value) (va : Option Addr) (vk : Nat) (o : List Nat), s6 = .int .i64 (k : Int) ∧ s5 = .slice va o.length vk ∧ Hid (Env D w sg [.mx (.slice xa L.length xk) (L.map nl)] wr) ∧ Hid (OI sg cs (.slice va o.length vk) (nl o)) ∧ Hid ((k ≤ L.length ∧ gk = L.length - k) ∧ o = tab (colF L j) k))
  case atStart => exact ⟨0, [], [], none, 0, [], rfl, rfl, Lib.hid (E0.out.cast (by simp)), Lib.hid OI.nlnil, Lib.hid ⟨⟨Nat.zero_le _, rfl⟩, rfl⟩⟩
  case round =>
    clear E0
    obtain ⟨k, sg, cs, va, vk, o, rfl, rfl, EL, hO, HA⟩ := hrel
    obtain ⟨⟨a1, a2⟩, a3⟩ := HA.out
    have HP := Lib.hid a3
    clear a3 HA
    by_cases hy : k = L.length
    · skip
      have t6 : decide ((k : Int) < (L.length : Int)) = false := decide_eq_false (by omega)
      have t6n : decide (k < L.length) = false := decide_eq_false (by omega)
      have HD : Hid (o = colT L j) := Lib.hid (by rw [HP.out, hy]; rfl)
      clear hy
      have hres := Lib.hid (OI.rwN hO.out EL.out (by intro p hp; simp [hp]))
      have hbel := Lib.hid EL.out.bel
      go_wp2
      go_ret
      exact ⟨⟨va, vk, by rw [← HD.out]; rfl, Lib.hid (by rw [← HD.out]; exact hres.out)⟩, hbel.out⟩
    have hk : k < L.length := by omega
    have t6 : decide ((k : Int) < (L.length : Int)) = true := decide_eq_true (by omega)
    have t6n : decide (k < L.length) = true := decide_eq_true (by omega)
    have hkI : (k : Int) < (L.length : Int) := by omega
    clear hy
    have hol : o.length + 1 ≤ 1000000 := by rw [HP.out, tab_len]; omega
    have HOL := Lib.hid hol
    clear hol
    go_upto_region 5 with (fail)
    obtain ⟨xab, xao, rfl⟩ := Mx.addrN (EL.out.fc 0 rfl) hk
    obtain ⟨ua, uk, E10⟩ := EL.out.elMN 0 rfl (k) hk
    have E1 : Hid (Env D w sg [.ce xab (xao + k) (.slice ua L[k].length uk), .rw (.slice ua L[k].length uk) L[k].length 1 (ncl L[k]), .mx (.slice (some ⟨xab, xao, none⟩) L.length xk) (L.map nl)] _) := Lib.hid E10
    clear E10 EL
    have u0 := (E1.out.fc 0 rfl).2
    have hjk : j < L[k].length := hj.out _ (List.getElem_mem hk)
    have hjkI : (j : Int) < (L[k].length : Int) := by omega
    obtain ⟨uab, uao, rfl⟩ := Rw.addr (E1.out.fc 1 rfl) (by omega)
    have E2 : Hid (Env D w sg [.ce uab (uao + j) (.int .i64 (L[k][j] : Nat)), .ce xab (xao + k) (.slice (some ⟨uab, uao, none⟩) L[k].length uk), .rw (.slice (some ⟨uab, uao, none⟩) L[k].length uk) L[k].length 1 (ncl L[k]), .mx (.slice (some ⟨xab, xao, none⟩) L.length xk) (L.map nl)] _) := Lib.hid (E1.out.elN 1 rfl rfl (j) hjk)
    clear E1
    have v0 := (E2.out.fc 0 rfl).2
    have E3 : Hid (Env D w ((wr.heap.size, 3, [.int .i64 (L[k][j] : Nat)]) :: sg) [.ce uab (uao + j) (.int .i64 (L[k][j] : Nat)), .ce xab (xao + k) (.slice (some ⟨uab, uao, none⟩) L[k].length uk), .rw (.slice (some ⟨uab, uao, none⟩) L[k].length uk) L[k].length 1 (ncl L[k]), .mx (.slice (some ⟨xab, xao, none⟩) L.length xk) (L.map nl)] _) := Lib.hid ((E2.out.push 3 [.int .i64 (L[k][j] : Nat)] (wr.heap.size) (by simp)))
    go_wp2_with (at_builtin; refine wpl_app1 (c := 1) tiI rfl _ _ rfl E3.out (A := [(wr.heap.size, 3, [.int .i64 (L[k][j] : Nat)])]) (sg := sg) (B' := []) (F := ((wr.heap.size, 3, [.int .i64 (L[k][j] : Nat)]) :: sg)) (by simp) (hO.out.os (nl_len o)) rfl rfl (SrcN.int (E3.out.bx 0 rfl)) HOL.out ?_)
    intro ng np nc w1 nH nT nE
    have nO := Lib.hid (OI.app (x := ((L[k][j] : Nat) : Int)) (g' := ng) (cs' := nc) (cap' := np) hO.out (nl_len o) (by simpa using nH.out) (by simpa using nT.out))
    have E4 : Hid (Env D w ((wr.heap.size, 3, [.int .i64 (L[k][j] : Nat)]) :: [(ng, 3, nc)]) [.ce uab (uao + j) (.int .i64 (L[k][j] : Nat)), .ce xab (xao + k) (.slice (some ⟨uab, uao, none⟩) L[k].length uk), .rw (.slice (some ⟨uab, uao, none⟩) L[k].length uk) L[k].length 1 (ncl L[k]), .mx (.slice (some ⟨xab, xao, none⟩) L.length xk) (L.map nl)] w1) := Lib.hid (nE.out.cast (by simp))
    clear u0 v0 E2 E3 nE nH nT hO
    have OZ : Hid (OI [(ng, 3, nc)] nc (.slice (some ⟨ng, 0, none⟩) (o ++ [L[k][j]]).length np) (nl (o ++ [L[k][j]]))) := Lib.hid (by rw [show nl (o ++ [L[k][j]]) = nl o ++ [((L[k][j] : Nat) : Int)] from by simp [nl], List.length_append, List.length_singleton]; exact nO.out)
    have EZ := Lib.hid ((((E4.out.drop).forget).forget).forget)
    go_wp2
    go_roundg (L.length - (k + 1))
    case rel => exact ⟨k + 1, [(ng, 3, nc)], nc, some ⟨ng, 0, none⟩, np, o ++ [L[k][j]], rfl, by simp, Lib.hid (EZ.out.cast (by simp)), OZ, Lib.hid ⟨⟨by omega, rfl⟩, by rw [HP.out]; exact tab_snoc (by unfold colF; rw [getL_elem hk, getD_elem hjk])⟩⟩
    case measure => exact by omega
set_option maxRecDepth 100000 in
set_option maxHeartbeats 2000000 in
theorem rscaled_c {D : Nat → Prop} (q c : Nat) (r : List Nat) {xa : Option Addr} {xk : Nat} {w : World} (hx : Fct.at w D (.rw (.slice xa r.length xk) r.length 1 (ncl r))) (hq0 : 0 < q) (hqT0 : (q : Int) < Top) (hc0 : c < q) (hr0 : ∀ x ∈ r, x < q) (hm : r.length ≤ 1000) :
    Calls Tryd.prog 116 #[.int .i64 (q : Nat), .slice xa r.length xk, .int .i64 (c : Nat)] w fun e w' => RetI (fun b => w.heap.size ≤ b) (sclN q r c) e w' ∧ Below w.heap.size w w' := by
  have E0 : Hid (Env D w [] [.rw (.slice xa r.length xk) r.length 1 (ncl r)] w) := Lib.hid ((Env.start D w).arg (.rw (.slice xa r.length xk) r.length 1 (ncl r)) hx)
  clear hx
  go_enter Tryd.func116, Tryd.ntmps116
  have hq := Lib.hid hq0
  have hqT := Lib.hid hqT0
  have hc := Lib.hid hc0
  have hr := Lib.hid hr0
  clear hq0 hqT0 hc0 hr0
  have hcq : (c : Int) < (q : Int) := Int.ofNat_lt.2 hc.out
  rw [sclN_tab]
  go_wp2_with fail
  go_loopg [8, 7] (r.length) (fun gk s8 s7 wr => ∃ (k : Nat) (sg : List Bx) (cs : List Value) (va : Option Addr) (vk : Nat) (o : List Nat), s8 = .int .i64 (k : Int) ∧ s7 = .slice va o.length vk ∧ Hid (Env D w sg [.rw (.slice xa r.length xk) r.length 1 (ncl r)] wr) ∧ Hid (OI sg cs (.slice va o.length vk) (nl o)) ∧ Hid ((k ≤ r.length ∧ gk = r.length - k) ∧ o = tab (fun j => r.getD j 0 * c % q) k))
  case atStart => exact ⟨0, [], [], none, 0, [], rfl, rfl, Lib.hid (E0.out.cast (by simp)), Lib.hid OI.nlnil, Lib.hid ⟨⟨Nat.zero_le _, rfl⟩, rfl⟩⟩
  case round =>
    clear E0
    obtain ⟨k, sg, cs, va, vk, o, rfl, rfl, EL, hO, HA⟩ := hrel
    obtain ⟨⟨a1, a2⟩, a3⟩ := HA.out
    have HP := Lib.hid a3
    clear a3 HA
    by_cases hy : k = r.length
    · skip
      have t6 : decide ((k : Int) < (r.length : Int)) = false := decide_eq_false (by omega)
      have t6n : decide (k < r.length) = false := decide_eq_false (by omega)
      have HD : Hid (o = tab (fun j => r.getD j 0 * c % q) (r.length)) := Lib.hid (by rw [HP.out, hy])
      clear hy
      have hres := Lib.hid (OI.rwN hO.out EL.out (by intro p hp; simp [hp]))
      have hbel := Lib.hid EL.out.bel
      go_wp2
      go_ret
      exact ⟨⟨va, vk, by rw [← HD.out]; rfl, Lib.hid (by rw [← HD.out]; exact hres.out)⟩, hbel.out⟩
    have hk : k < r.length := by omega
    have t6 : decide ((k : Int) < (r.length : Int)) = true := decide_eq_true (by omega)
    have t6n : decide (k < r.length) = true := decide_eq_true (by omega)
    have hkI : (k : Int) < (r.length : Int) := by omega
    clear hy
    have hol : o.length + 1 ≤ 1000000 := by rw [HP.out, tab_len]; omega
    have HOL := Lib.hid hol
    clear hol
    go_upto_region 5 with (fail)
    obtain ⟨xab, xao, rfl⟩ := Rw.addr (EL.out.fc 0 rfl) (by omega)
    have E1 : Hid (Env D w sg [.ce xab (xao + k) (.int .i64 (r[k] : Nat)), .rw (.slice (some ⟨xab, xao, none⟩) r.length xk) r.length 1 (ncl r)] _) := Lib.hid (EL.out.elN 0 rfl rfl (k) hk)
    clear EL
    have v0 := (E1.out.fc 0 rfl).2
    have hvq : ((r[k] : Nat) : Int) < (q : Int) := Int.ofNat_lt.2 (hr.out _ (List.getElem_mem hk))
    go_wp2_with fail
    refine (rtimes_c q r[k] c _ hvq hcq hqT.out).mono ?_
    rintro e w1 ⟨⟨m, mh, rfl⟩, hb⟩
    have E2 : Hid (Env D w sg [.ce xab (xao + k) (.int .i64 (r[k] : Nat)), .rw (.slice (some ⟨xab, xao, none⟩) r.length xk) r.length 1 (ncl r)] w1) := Lib.hid (E1.out.below hb)
    clear v0 E1 hb
    have E3 : Hid (Env D w ((w1.heap.size, 3, [.int .i64 (m : Nat)]) :: sg) [.ce xab (xao + k) (.int .i64 (r[k] : Nat)), .rw (.slice (some ⟨xab, xao, none⟩) r.length xk) r.length 1 (ncl r)] _) := Lib.hid ((E2.out.push 3 [.int .i64 (m : Nat)] (w1.heap.size) (by simp)))
    go_wp2_with (at_builtin; refine wpl_app1 (c := 1) tiI rfl _ _ rfl E3.out (A := [(w1.heap.size, 3, [.int .i64 (m : Nat)])]) (sg := sg) (B' := []) (F := ((w1.heap.size, 3, [.int .i64 (m : Nat)]) :: sg)) (by simp) (hO.out.os (nl_len o)) rfl rfl (SrcN.int (E3.out.bx 0 rfl)) HOL.out ?_)
    intro ng np nc w2 nH nT nE
    have nO := Lib.hid (OI.app (x := ((m : Nat) : Int)) (g' := ng) (cs' := nc) (cap' := np) hO.out (nl_len o) (by simpa using nH.out) (by simpa using nT.out))
    have E4 : Hid (Env D w ((w1.heap.size, 3, [.int .i64 (m : Nat)]) :: [(ng, 3, nc)]) [.ce xab (xao + k) (.int .i64 (r[k] : Nat)), .rw (.slice (some ⟨xab, xao, none⟩) r.length xk) r.length 1 (ncl r)] w2) := Lib.hid (nE.out.cast (by simp))
    clear E2 E3 nE nH nT hO
    have OZ : Hid (OI [(ng, 3, nc)] nc (.slice (some ⟨ng, 0, none⟩) (o ++ [m]).length np) (nl (o ++ [m]))) := Lib.hid (by rw [show nl (o ++ [m]) = nl o ++ [((m : Nat) : Int)] from by simp [nl], List.length_append, List.length_singleton]; exact nO.out)
    have EZ := Lib.hid ((E4.out.drop).forget)
    go_wp2
    go_roundg (r.length - (k + 1))
    case rel => exact ⟨k + 1, [(ng, 3, nc)], nc, some ⟨ng, 0, none⟩, np, o ++ [m], rfl, by simp, Lib.hid (EZ.out.cast (by simp)), OZ, Lib.hid ⟨⟨by omega, rfl⟩, by rw [HP.out]; exact tab_snoc (by rw [getD_elem hk, mh.out])⟩⟩
    case measure => exact by omega
set_option maxRecDepth 100000 in
set_option maxHeartbeats 4000000 in
theorem radded_c {D : Nat → Prop} (q c : Nat) (r o2 : List Nat) {xa ya : Option Addr} {xk yk : Nat} {w : World} (hx : Fct.at w D (.rw (.slice xa r.length xk) r.length 1 (ncl r))) (hy : Fct.at w D (.rw (.slice ya o2.length yk) o2.length 1 (ncl o2))) (hq0 : 0 < q) (hqT0 : (q : Int) < Top) (hc0 : c < q) (hr0 : ∀ x ∈ r, x < q) (ho0 : ∀ x ∈ o2, x < q) (hm : r.length ≤ 1000) (hro0 : r.length ≤ o2.length) :
    Calls Tryd.prog 117 #[.int .i64 (q : Nat), .slice xa r.length xk, .int .i64 (c : Nat), .slice ya o2.length yk] w fun e w' => RetI (fun b => w.heap.size ≤ b) (admN q r c o2) e w' ∧ Below w.heap.size w w' := by
  have E0 : Hid (Env D w [] [.rw (.slice ya o2.length yk) o2.length 1 (ncl o2), .rw (.slice xa r.length xk) r.length 1 (ncl r)] w) := Lib.hid (((Env.start D w).arg (.rw (.slice xa r.length xk) r.length 1 (ncl r)) hx).arg (.rw (.slice ya o2.length yk) o2.length 1 (ncl o2)) hy)
  clear hx hy
  go_enter Tryd.func117, Tryd.ntmps117
  have hq := Lib.hid hq0
  have hqT := Lib.hid hqT0
  have hc := Lib.hid hc0
  have hr := Lib.hid hr0
  have ho := Lib.hid ho0
  have hro := Lib.hid hro0
  clear hq0 hqT0 hc0 hr0 ho0 hro0
  have hcq : (c : Int) < (q : Int) := Int.ofNat_lt.2 hc.out
  rw [admN_tab]
  go_wp2_with fail
  go_loopg [10, 9] (r.length) (fun gk s10 s9 wr => ∃ (k : Nat) (sg : List Bx) (cs : List Value) (va : Option Addr) (vk : Nat) (o : List Nat), s10 = .int .i64 (k : Int) ∧ s9 = .slice va o.length vk ∧ Hid (Env D w sg [.rw (.slice ya o2.length yk) o2.length 1 (ncl o2), .rw (.slice xa r.length xk) r.length 1 (ncl r)] wr) ∧ Hid (OI sg cs (.slice va o.length vk) (nl o)) ∧ Hid ((k ≤ r.length ∧ gk = r.length - k) ∧ o = tab (fun j => (r.getD j 0 + c * o2.getD j 0 % q) % q) k))
  case atStart => exact ⟨0, [], [], none, 0, [], rfl, rfl, Lib.hid (E0.out.cast (by simp)), Lib.hid OI.nlnil, Lib.hid ⟨⟨Nat.zero_le _, rfl⟩, rfl⟩⟩
  case round =>
    clear E0
    obtain ⟨k, sg, cs, va, vk, o, rfl, rfl, EL, hO, HA⟩ := hrel
    obtain ⟨⟨a1, a2⟩, a3⟩ := HA.out
    have HP := Lib.hid a3
    clear a3 HA
    by_cases hy : k = r.length
    · skip
      have t6 : decide ((k : Int) < (r.length : Int)) = false := decide_eq_false (by omega)
      have t6n : decide (k < r.length) = false := decide_eq_false (by omega)
      have HD : Hid (o = tab (fun j => (r.getD j 0 + c * o2.getD j 0 % q) % q) (r.length)) := Lib.hid (by rw [HP.out, hy])
      clear hy
      have hres := Lib.hid (OI.rwN hO.out EL.out (by intro p hp; simp [hp]))
      have hbel := Lib.hid EL.out.bel
      go_wp2
      go_ret
      exact ⟨⟨va, vk, by rw [← HD.out]; rfl, Lib.hid (by rw [← HD.out]; exact hres.out)⟩, hbel.out⟩
    have hk : k < r.length := by omega
    have t6 : decide ((k : Int) < (r.length : Int)) = true := decide_eq_true (by omega)
    have t6n : decide (k < r.length) = true := decide_eq_true (by omega)
    have hkI : (k : Int) < (r.length : Int) := by omega
    clear hy
    have hol : o.length + 1 ≤ 1000000 := by rw [HP.out, tab_len]; omega
    have HOL := Lib.hid hol
    clear hol
    go_upto_region 5 with (fail)
    have hk2 : k < o2.length := by have := hro.out; omega
    have hk2I : (k : Int) < (o2.length : Int) := by omega
    obtain ⟨xab, xao, rfl⟩ := Rw.addr (EL.out.fc 1 rfl) (by omega)
    have E1 : Hid (Env D w sg [.ce xab (xao + k) (.int .i64 (r[k] : Nat)), .rw (.slice ya o2.length yk) o2.length 1 (ncl o2), .rw (.slice (some ⟨xab, xao, none⟩) r.length xk) r.length 1 (ncl r)] _) := Lib.hid (EL.out.elN 1 rfl rfl (k) hk)
    clear EL
    have v0 := (E1.out.fc 0 rfl).2
    obtain ⟨yab, yao, rfl⟩ := Rw.addr (E1.out.fc 1 rfl) (by omega)
    have E2 : Hid (Env D w sg [.ce yab (yao + k) (.int .i64 (o2[k] : Nat)), .ce xab (xao + k) (.int .i64 (r[k] : Nat)), .rw (.slice (some ⟨yab, yao, none⟩) o2.length yk) o2.length 1 (ncl o2), .rw (.slice (some ⟨xab, xao, none⟩) r.length xk) r.length 1 (ncl r)] _) := Lib.hid (E1.out.elN 1 rfl rfl (k) hk2)
    clear E1
    have u0 := (E2.out.fc 0 rfl).2
    have hvq : ((r[k] : Nat) : Int) < (q : Int) := Int.ofNat_lt.2 (hr.out _ (List.getElem_mem hk))
    have huq : ((o2[k] : Nat) : Int) < (q : Int) := Int.ofNat_lt.2 (ho.out _ (List.getElem_mem hk2))
    go_wp2_with fail
    have E3 : Hid (Env D w sg [.ce yab (yao + k) (.int .i64 (o2[k] : Nat)), .ce xab (xao + k) (.int .i64 (r[k] : Nat)), .rw (.slice (some ⟨yab, yao, none⟩) o2.length yk) o2.length 1 (ncl o2), .rw (.slice (some ⟨xab, xao, none⟩) r.length xk) r.length 1 (ncl r)] (wr.drew)) := Lib.hid E2.out.drew
    clear v0 u0 E2
    refine wp_regionU (S := fun w' => w'.cell? ⟨xab, xao + k, none⟩ = some (.int .i64 (r[k] : Nat)) ∧ w'.cell? ⟨yab, yao + k, none⟩ = some (.int .i64 (o2[k] : Nat))) [] (by kernel_rfl) (⟨(E3.out.fc 1 rfl).2, (E3.out.fc 0 rfl).2⟩) (fun hHeld => ?_)
    generalize wr.drew = w1 at *
    refine uTake (i := 0) (some 17) (v := ?_) rfl rfl (by kernel_rfl) (by kernel_rfl) (by kernel_rfl) (by kernel_rfl) (fun _ _ _ h => h) (by rfl) (by assumption) ?_ ?_
    rotate_left
    · (intro wS hSw; (try dsimp only at hSw); go_simp; try with_reducible rfl)
    try simp only [Act.put, List.setIfInBounds_toArray, List.set_cons_zero, List.set_cons_succ]
    refine uTake (i := 1) (some 18) (v := ?_) rfl rfl (by kernel_rfl) (by kernel_rfl) (by kernel_rfl) (by kernel_rfl) (fun _ _ _ h => h) (by rfl) (by assumption) ?_ ?_
    rotate_left
    · (intro wS hSw; (try dsimp only at hSw); go_simp; try with_reducible rfl)
    try simp only [Act.put, List.setIfInBounds_toArray, List.set_cons_zero, List.set_cons_succ]
    refine uTake (i := 2) (some 19) (v := ?_) rfl rfl (by kernel_rfl) (by kernel_rfl) (by kernel_rfl) (by kernel_rfl) (fun _ _ _ h => h) (by rfl) (by assumption) ?_ ?_
    rotate_left
    · (intro wS hSw; (try dsimp only at hSw); go_simp; try with_reducible rfl)
    try simp only [Act.put, List.setIfInBounds_toArray, List.set_cons_zero, List.set_cons_succ]
    refine uTake (i := 3) (some 20) (v := ?_) rfl rfl (by kernel_rfl) (by kernel_rfl) (by kernel_rfl) (by kernel_rfl) (fun _ _ _ h => h) (by rfl) (by assumption) ?_ ?_
    rotate_left
    · (intro wS hSw; (try dsimp only at hSw); go_simp; try with_reducible rfl)
    try simp only [Act.put, List.setIfInBounds_toArray, List.set_cons_zero, List.set_cons_succ]
    refine uTake (i := 4) (some 21) (v := ?_) rfl rfl (by kernel_rfl) (by kernel_rfl) (by kernel_rfl) (by kernel_rfl) (fun _ _ _ h => h) (by rfl) (by assumption) ?_ ?_
    rotate_left
    · (intro wS hSw; (try dsimp only at hSw); go_simp; try with_reducible rfl)
    try simp only [Act.put, List.setIfInBounds_toArray, List.set_cons_zero, List.set_cons_succ]
    refine uTake (i := 5) (some 22) (v := ?_) rfl rfl (by kernel_rfl) (by kernel_rfl) (by kernel_rfl) (by kernel_rfl) (fun _ _ _ h => h) (by rfl) (by assumption) ?_ ?_
    rotate_left
    · (intro wS hSw; (try dsimp only at hSw); go_simp; try with_reducible rfl)
    try simp only [Act.put, List.setIfInBounds_toArray, List.set_cons_zero, List.set_cons_succ]
    refine uTake (i := 6) (some 23) (v := ?_) rfl rfl (by kernel_rfl) (by kernel_rfl) (by kernel_rfl) (by kernel_rfl) (fun _ _ _ h => h) (by rfl) (by assumption) ?_ ?_
    rotate_left
    · (intro wS hSw; (try dsimp only at hSw); go_simp; try with_reducible rfl)
    try simp only [Act.put, List.setIfInBounds_toArray, List.set_cons_zero, List.set_cons_succ]
    refine uTake (i := 7) (some 24) (v := ?_) rfl rfl (by kernel_rfl) (by kernel_rfl) (by kernel_rfl) (by kernel_rfl) (fun _ _ _ h => h) (by rfl) (by assumption) ?_ ?_
    rotate_left
    · (intro wS hSw; (try dsimp only at hSw); go_simp; try with_reducible rfl)
    try simp only [Act.put, List.setIfInBounds_toArray, List.set_cons_zero, List.set_cons_succ]
    refine uTake (i := 8) (some 25) (v := ?_) rfl rfl (by kernel_rfl) (by kernel_rfl) (by kernel_rfl) (by kernel_rfl) (fun _ _ _ h => h) (by rfl) (by assumption) ?_ ?_
    rotate_left
    · (intro wS hSw; (try dsimp only at hSw); go_simp; try with_reducible rfl)
    try simp only [Act.put, List.setIfInBounds_toArray, List.set_cons_zero, List.set_cons_succ]
    refine uTake (i := 9) (some 26) (v := ?_) rfl rfl (by kernel_rfl) (by kernel_rfl) (by kernel_rfl) (by kernel_rfl) (fun _ _ _ h => h) (by rfl) (by assumption) ?_ ?_
    rotate_left
    · (intro wS hSw; (try dsimp only at hSw); go_simp; try with_reducible rfl)
    try simp only [Act.put, List.setIfInBounds_toArray, List.set_cons_zero, List.set_cons_succ]
    refine uTake (i := 10) (some 27) (v := ?_) rfl rfl (by kernel_rfl) (by kernel_rfl) (by kernel_rfl) (by kernel_rfl) (fun _ _ _ h => h) (by rfl) (by assumption) ?_ ?_
    rotate_left
    · (intro wS hSw; (try dsimp only at hSw); go_simp; try with_reducible rfl)
    try simp only [Act.put, List.setIfInBounds_toArray, List.set_cons_zero, List.set_cons_succ]
    refine uTake (i := 11) (some 28) (v := ?_) rfl rfl (by kernel_rfl) (by kernel_rfl) (by kernel_rfl) (by kernel_rfl) (fun _ _ _ h => h) (by rfl) (by assumption) ?_ ?_
    rotate_left
    · (intro wS hSw; (try dsimp only at hSw); go_simp; try with_reducible rfl)
    try simp only [Act.put, List.setIfInBounds_toArray, List.set_cons_zero, List.set_cons_succ]
    refine uReady (rs := [12]) (by kernel_rfl) (by simp) ?_
    refine ReadyU.cons rfl (fun KK hKK => ?_) ReadyU.nil
    go_simp
    refine (rtimes_c q c o2[k] _ hcq huq hqT.out).mono ?_
    rintro e w2 ⟨⟨m1, m1h, rfl⟩, hb⟩
    have E4 : Hid (Env D w sg [.ce yab (yao + k) (.int .i64 (o2[k] : Nat)), .ce xab (xao + k) (.int .i64 (r[k] : Nat)), .rw (.slice (some ⟨yab, yao, none⟩) o2.length yk) o2.length 1 (ncl o2), .rw (.slice (some ⟨xab, xao, none⟩) r.length xk) r.length 1 (ncl r)] w2) := Lib.hid (E3.out.below hb)
    clear E3 hb
    have m1q : (m1 : Int) < (q : Int) := by rw [m1h.out]; exact Int.ofNat_lt.2 (Nat.mod_lt _ hq.out)
    (try dsimp only)
    clear hHeld
    refine hKK.out _ _ (⟨(E4.out.fc 1 rfl).2, (E4.out.fc 0 rfl).2⟩) (fun hHeld => ?_)
    clear hKK KK
    try simp only [Act.put, List.setIfInBounds_toArray, List.set_cons_zero, List.set_cons_succ]
    refine uReady (rs := [13]) (by kernel_rfl) (by simp) ?_
    refine ReadyU.cons rfl (fun KK hKK => ?_) ReadyU.nil
    go_simp
    refine (rplus_c q r[k] m1 _ hvq m1q hqT.out).mono ?_
    rintro e w3 ⟨⟨m2, m2h, rfl⟩, hb⟩
    have E5 : Hid (Env D w sg [.ce yab (yao + k) (.int .i64 (o2[k] : Nat)), .ce xab (xao + k) (.int .i64 (r[k] : Nat)), .rw (.slice (some ⟨yab, yao, none⟩) o2.length yk) o2.length 1 (ncl o2), .rw (.slice (some ⟨xab, xao, none⟩) r.length xk) r.length 1 (ncl r)] w3) := Lib.hid (E4.out.below hb)
    clear E4 hb
    (try dsimp only)
    clear hHeld
    refine hKK.out _ _ (⟨(E5.out.fc 1 rfl).2, (E5.out.fc 0 rfl).2⟩) (fun hHeld => ?_)
    clear hKK KK
    try simp only [Act.put, List.setIfInBounds_toArray, List.set_cons_zero, List.set_cons_succ]
    refine uReady (rs := [14]) (by kernel_rfl) (by simp) ?_
    refine ReadyU.cons rfl (fun KK hKK => ?_) ReadyU.nil
    go_simp
    have E6 : Hid (Env D w ((w3.heap.size, 3, [.int .i64 (m2 : Nat)]) :: sg) [.ce yab (yao + k) (.int .i64 (o2[k] : Nat)), .ce xab (xao + k) (.int .i64 (r[k] : Nat)), .rw (.slice (some ⟨yab, yao, none⟩) o2.length yk) o2.length 1 (ncl o2), .rw (.slice (some ⟨xab, xao, none⟩) r.length xk) r.length 1 (ncl r)] _) := Lib.hid ((E5.out.push 3 [.int .i64 (m2 : Nat)] (w3.heap.size) (by simp)))
    (try dsimp only)
    clear hHeld
    refine hKK.out _ _ (⟨(E6.out.fc 1 rfl).2, (E6.out.fc 0 rfl).2⟩) (fun hHeld => ?_)
    clear hKK KK
    try simp only [Act.put, List.setIfInBounds_toArray, List.set_cons_zero, List.set_cons_succ]
    clear E5
    generalize w3.alloc (.cells #[.int .i64 (m2 : Nat)] 3) = w4 at *
    refine uReady (rs := [15]) (by kernel_rfl) (by simp) ?_
    refine ReadyU.cons rfl (fun KK hKK => ?_) ReadyU.nil
    refine op_app1 (c := 1) tiI (some 32) rfl rfl (.tmp 17) (.tmp 31) rfl E6.out (A := [(w3.heap.size, 3, [.int .i64 (m2 : Nat)])]) (sg := sg) (B' := []) (F := ((w3.heap.size, 3, [.int .i64 (m2 : Nat)]) :: sg)) (by simp) (hO.out.os (nl_len o)) (by simp [Act.eval, Act.put]) (by simp [Act.eval, Act.put]; done) (SrcN.int (E6.out.bx 0 rfl)) HOL.out ?_
    intro ng np nc w5 nH nT nE
    have nO := Lib.hid (OI.app (g' := ng) hO.out (nl_len o) nH.out nT.out)
    have E7 : Hid (Env D w ((w3.heap.size, 3, [.int .i64 (m2 : Nat)]) :: [(ng, 3, nc)]) [.ce yab (yao + k) (.int .i64 (o2[k] : Nat)), .ce xab (xao + k) (.int .i64 (r[k] : Nat)), .rw (.slice (some ⟨yab, yao, none⟩) o2.length yk) o2.length 1 (ncl o2), .rw (.slice (some ⟨xab, xao, none⟩) r.length xk) r.length 1 (ncl r)] w5) := Lib.hid (nE.out.cast (by simp))
    clear E6 nE nH nT hO
    (try dsimp only)
    clear hHeld
    refine hKK.out _ _ (⟨(E7.out.fc 1 rfl).2, (E7.out.fc 0 rfl).2⟩) (fun hHeld => ?_)
    clear hKK KK
    try simp only [Act.put, List.setIfInBounds_toArray, List.set_cons_zero, List.set_cons_succ]
    refine uTake (i := 16) (some 9) (v := ?_) rfl rfl (by kernel_rfl) (by kernel_rfl) (by kernel_rfl) (by kernel_rfl) (fun _ _ _ h => h) (by rfl) (by assumption) ?_ ?_
    rotate_left
    · (intro wS hSw; (try dsimp only at hSw); go_simp; try with_reducible rfl)
    try simp only [Act.put, List.setIfInBounds_toArray, List.set_cons_zero, List.set_cons_succ]
    refine uDone (by kernel_rfl) ?_ _
    have OZ : Hid (OI [(ng, 3, nc)] nc (.slice (some ⟨ng, 0, none⟩) (o ++ [m2]).length np) (nl (o ++ [m2]))) := Lib.hid (by rw [show nl (o ++ [m2]) = nl o ++ [((m2 : Nat) : Int)] from by simp [nl], List.length_append, List.length_singleton]; exact nO.out)
    have EZ := Lib.hid (((E7.out.drop).forget).forget)
    go_wp2
    go_roundg (r.length - (k + 1))
    case rel => exact ⟨k + 1, [(ng, 3, nc)], nc, some ⟨ng, 0, none⟩, np, o ++ [m2], rfl, by simp, Lib.hid (EZ.out.cast (by simp)), OZ, Lib.hid ⟨⟨by omega, rfl⟩, by rw [HP.out]; exact tab_snoc (by rw [getD_elem hk, getD_elem hk2, m2h.out, m1h.out])⟩⟩
    case measure => exact by omega
set_option maxRecDepth 100000 in
set_option maxHeartbeats 2000000 in
theorem rApply_c {D : Nat → Prop} (q n : Nat) (L : List (List Nat)) (x : List Nat) {xa ya : Option Addr} {xk yk : Nat} {w : World} (hx : Fct.at w D (.mx (.slice xa L.length xk) (L.map nl))) (hy : Fct.at w D (.rw (.slice ya x.length yk) x.length 1 (ncl x))) (hq0 : 0 < q) (hqT0 : (q : Int) < Top) (hL : L.length ≤ 1000) (hres0 : ResM q n L) (hxn0 : x.length = n) (hxq0 : ∀ c ∈ x, c < q) (hn0 : n ≤ 1000) :
    Calls Tryd.prog 47 #[.int .i64 (q : Nat), .slice xa L.length xk, .slice ya x.length yk] w fun e w' => RetI (fun b => w.heap.size ≤ b) (appT q L x) e w' ∧ Below w.heap.size w w' := by
  have E0 : Hid (Env D w [] [.rw (.slice ya x.length yk) x.length 1 (ncl x), .mx (.slice xa L.length xk) (L.map nl)] w) := Lib.hid (((Env.start D w).arg (.mx (.slice xa L.length xk) (L.map nl)) hx).arg (.rw (.slice ya x.length yk) x.length 1 (ncl x)) hy)
  clear hx hy
  go_enter Tryd.func47, Tryd.ntmps47
  have hq := Lib.hid hq0
  have hqT := Lib.hid hqT0
  have hres := Lib.hid hres0
  have hxn := Lib.hid hxn0
  have hxq := Lib.hid hxq0
  have hn := Lib.hid hn0
  clear hq0 hqT0 hres0 hxn0 hxq0 hn0
  go_wp2_with fail
  go_loopg [8, 7] (L.length) (fun gk s8 s7 wr => ∃ (k : Nat) (sg : List Bx) (cs : List Value) (va : Option Addr) (vk : Nat) (o : List Nat), s8 = .int .i64 (k : Int) ∧ s7 = .slice va o.length vk ∧ Hid (Env D w sg [.rw (.slice ya x.length yk) x.length 1 (ncl x), .mx (.slice xa L.length xk) (L.map nl)] wr) ∧ Hid (OI sg cs (.slice va o.length vk) (nl o)) ∧ Hid ((k ≤ L.length ∧ gk = L.length - k) ∧ o = tab (appF q L x) k))
  case atStart => exact ⟨0, [], [], none, 0, [], rfl, rfl, Lib.hid (E0.out.cast (by simp)), Lib.hid OI.nlnil, Lib.hid ⟨⟨Nat.zero_le _, rfl⟩, rfl⟩⟩
  case round =>
    clear E0
    obtain ⟨k, sg, cs, va, vk, o, rfl, rfl, EL, hO, HA⟩ := hrel
    obtain ⟨⟨a1, a2⟩, a3⟩ := HA.out
    have HP := Lib.hid a3
    clear a3 HA
    by_cases hy : k = L.length
    · skip
      have t6 : decide ((k : Int) < (L.length : Int)) = false := decide_eq_false (by omega)
      have t6n : decide (k < L.length) = false := decide_eq_false (by omega)
      have HD : Hid (o = appT q L x) := Lib.hid (by rw [HP.out, hy]; rfl)
      clear hy
      have hres := Lib.hid (OI.rwN hO.out EL.out (by intro p hp; simp [hp]))
      have hbel := Lib.hid EL.out.bel
      go_wp2
      go_ret
      exact ⟨⟨va, vk, by rw [← HD.out]; rfl, Lib.hid (by rw [← HD.out]; exact hres.out)⟩, hbel.out⟩
    have hk : k < L.length := by omega
    have t6 : decide ((k : Int) < (L.length : Int)) = true := decide_eq_true (by omega)
    have t6n : decide (k < L.length) = true := decide_eq_true (by omega)
    have hkI : (k : Int) < (L.length : Int) := by omega
    clear hy
    have hol : o.length + 1 ≤ 1000000 := by rw [HP.out, tab_len]; omega
    have HOL := Lib.hid hol
    clear hol
    go_upto_region 5 with (fail)
    obtain ⟨xab, xao, rfl⟩ := Mx.addrN (EL.out.fc 1 rfl) hk
    obtain ⟨ua, uk, E10⟩ := EL.out.elMN 1 rfl (k) hk
    have E1 : Hid (Env D w sg [.ce xab (xao + k) (.slice ua L[k].length uk), .rw (.slice ua L[k].length uk) L[k].length 1 (ncl L[k]), .rw (.slice ya x.length yk) x.length 1 (ncl x), .mx (.slice (some ⟨xab, xao, none⟩) L.length xk) (L.map nl)] _) := Lib.hid E10
    clear E10 EL
    have u0 := (E1.out.fc 0 rfl).2
    have HLK : Hid (L[k].length = x.length ∧ ∀ c ∈ L[k], c < q) := Lib.hid (by have h := hres.out _ (List.getElem_mem hk); rw [hxn.out]; exact h)
    have HLN : Hid (L[k].length ≤ 1000) := Lib.hid (by rw [HLK.out.1, hxn.out]; exact hn.out)
    go_wp2_with fail
    refine (rdot_c q L[k] x (E1.out.fc 1 rfl) (E1.out.fc 2 rfl) hq.out hqT.out HLK.out.2 hxq.out (Nat.le_of_eq HLK.out.1) HLN.out).mono ?_
    rintro e w1 ⟨rfl, hb⟩
    have E2 : Hid (Env D w sg [.ce xab (xao + k) (.slice ua L[k].length uk), .rw (.slice ua L[k].length uk) L[k].length 1 (ncl L[k]), .rw (.slice ya x.length yk) x.length 1 (ncl x), .mx (.slice (some ⟨xab, xao, none⟩) L.length xk) (L.map nl)] w1) := Lib.hid (E1.out.below hb)
    clear u0 E1 hb
    have E3 : Hid (Env D w ((w1.heap.size, 3, [.int .i64 ((dotN q L[k] x L[k].length : Nat) : Int)]) :: sg) [.ce xab (xao + k) (.slice ua L[k].length uk), .rw (.slice ua L[k].length uk) L[k].length 1 (ncl L[k]), .rw (.slice ya x.length yk) x.length 1 (ncl x), .mx (.slice (some ⟨xab, xao, none⟩) L.length xk) (L.map nl)] _) := Lib.hid ((E2.out.push 3 [.int .i64 ((dotN q L[k] x L[k].length : Nat) : Int)] (w1.heap.size) (by simp)))
    go_wp2_with (at_builtin; refine wpl_app1 (c := 1) tiI rfl _ _ rfl E3.out (A := [(w1.heap.size, 3, [.int .i64 ((dotN q L[k] x L[k].length : Nat) : Int)])]) (sg := sg) (B' := []) (F := ((w1.heap.size, 3, [.int .i64 ((dotN q L[k] x L[k].length : Nat) : Int)]) :: sg)) (by simp) (hO.out.os (nl_len o)) rfl rfl (SrcN.int (E3.out.bx 0 rfl)) HOL.out ?_)
    intro ng np nc w2 nH nT nE
    have nO := Lib.hid (OI.app (x := ((dotN q L[k] x L[k].length : Nat) : Int)) (g' := ng) (cs' := nc) (cap' := np) hO.out (nl_len o) (by simpa using nH.out) (by simpa using nT.out))
    have E4 : Hid (Env D w ((w1.heap.size, 3, [.int .i64 ((dotN q L[k] x L[k].length : Nat) : Int)]) :: [(ng, 3, nc)]) [.ce xab (xao + k) (.slice ua L[k].length uk), .rw (.slice ua L[k].length uk) L[k].length 1 (ncl L[k]), .rw (.slice ya x.length yk) x.length 1 (ncl x), .mx (.slice (some ⟨xab, xao, none⟩) L.length xk) (L.map nl)] w2) := Lib.hid (nE.out.cast (by simp))
    clear E2 E3 nE nH nT hO
    have OZ : Hid (OI [(ng, 3, nc)] nc (.slice (some ⟨ng, 0, none⟩) (o ++ [dotN q L[k] x L[k].length]).length np) (nl (o ++ [dotN q L[k] x L[k].length]))) := Lib.hid (by rw [show nl (o ++ [dotN q L[k] x L[k].length]) = nl o ++ [((dotN q L[k] x L[k].length : Nat) : Int)] from by simp [nl], List.length_append, List.length_singleton]; exact nO.out)
    have EZ := Lib.hid (((E4.out.drop).forget).forget)
    go_wp2
    go_roundg (L.length - (k + 1))
    case rel => exact ⟨k + 1, [(ng, 3, nc)], nc, some ⟨ng, 0, none⟩, np, o ++ [dotN q L[k] x L[k].length], rfl, by simp, Lib.hid (EZ.out.cast (by simp)), OZ, Lib.hid ⟨⟨by omega, rfl⟩, by rw [HP.out]; exact tab_snoc (by unfold appF; rw [getL_elem hk, HLK.out.1])⟩⟩
    case measure => exact by omega
end Go.Proofs.YtinlfogpbologaaDoor

/- matrix: Solve. -/
import Derived.Test.YtinlfogpbologaaDoorMatO
namespace Go.Proofs.YtinlfogpbologaaDoor
open Go.RowKit DivMath WordMath
set_option linter.unusedVariables false
set_option linter.unusedSimpArgs false
/-- the particular solution, behind i pivots -/
def partV (n : Nat) (P : List Nat) (M : List (List Nat)) : Nat → List Nat
  | 0 => List.replicate n 0
  | i + 1 => (partV n P M i).set (P.getD i 0) ((M.getD i []).getD n 0)
/-- the kernel's vector of a free column, behind i pivots -/
def kerV (q n : Nat) (P : List Nat) (M : List (List Nat)) (f : Nat) : Nat → List Nat
  | 0 => (List.replicate n 0).set f 1
  | i + 1 => (kerV q n P M f i).set (P.getD i 0) ((q - (M.getD i []).getD f 0) % q)
def kerL (q n : Nat) (P : List Nat) (M : List (List Nat)) : Nat → List (List Nat)
  | 0 => []
  | f + 1 => if P.contains f = true then kerL q n P M f else kerL q n P M f ++ [kerV q n P M f P.length]
section
variable {q n f i : Nat} {P : List Nat} {M : List (List Nat)}
theorem partV_len : ∀ i, (partV n P M i).length = n
  | 0 => List.length_replicate
  | i + 1 => by rw [partV, List.length_set]; exact partV_len i
theorem kerV_len : ∀ i, (kerV q n P M f i).length = n
  | 0 => by rw [kerV, List.length_set]; exact List.length_replicate
  | i + 1 => by rw [kerV, List.length_set]; exact kerV_len i
theorem partV_step (hi : i < P.length) (hm : i < M.length) (hn : n < M[i].length) : (ncl (partV n P M i)).set P[i] (.int .i64 (M[i][n] : Nat)) = ncl (partV n P M (i + 1)) := by
  rw [ncl_set, partV, getD_elem hi, getL_elem hm, getD_elem hn]
theorem kerV_step {r : Nat} (hi : i < P.length) (hm : i < M.length) (hf : f < M[i].length) (hr : r = (q - M[i][f]) % q) : (ncl (kerV q n P M f i)).set P[i] (.int .i64 (r : Nat)) = ncl (kerV q n P M f (i + 1)) := by
  rw [ncl_set, kerV, getD_elem hi, getL_elem hm, getD_elem hf, hr]
theorem kerL_skip (h : P.contains f = true) : kerL q n P M (f + 1) = kerL q n P M f := by rw [kerL, if_pos h]
theorem kerL_add (h : P.contains f = false) : kerL q n P M (f + 1) = kerL q n P M f ++ [kerV q n P M f P.length] := by rw [kerL, if_neg (by rw [h]; simp)]
theorem kerL_len_le : ∀ f, (kerL q n P M f).length ≤ f
  | 0 => Nat.le_refl _
  | f + 1 => by
    have := kerL_len_le f
    rw [kerL]
    split
    · omega
    · rw [List.length_append, List.length_singleton]; omega
end
theorem Env.freezeNn {D0 : Nat → Prop} {w W : World} {F : List Bx} {G : List Fct} {g n : Nat} {T : TypeId} (l : List Nat) (E : Env D0 w ((g, T, ncl l) :: F) G W) (hl : l.length = n) (hn : n ≤ 1000000) : Env D0 w F (.rw (.slice (some ⟨g, 0, none⟩) n n) n 1 (ncl l) :: G) W := by
  subst hl; exact Env.freezeN l E hn
section
variable {D : Nat → Prop} {q n : Nat} {L M : List (List Nat)} {b P : List Nat} {xa ya : Option Addr} {xk yk : Nat} {w : World}
theorem sys_t (hx : Fct.at w D (.mx (.slice xa L.length xk) (L.map nl))) (hy : Fct.at w D (.rw (.slice ya b.length yk) b.length 1 (ncl b))) (hl : Laid w) (hv : MvI q n L) (hne : b.length = L.length) (hs : ∀ c ∈ b, c < q) (hR : redN q (sysL L b) n = (M, P)) (ht : noneB n (M, P) = true) :
    Calls Tryd.prog 74 #[.int .i64 (q : Nat), .slice xa L.length xk, .slice ya b.length yk] w fun e w' => e = .returned (.tuple #[.slice none 0 0, .slice none 0 0, .int .i64 7]) ∧ Below w.heap.size w w' := by
  refine (sys_ok q n L b hx hy hl hv hne hs (t := true) (by rw [hR]; exact ht)).mono fun e w' h => ⟨?_, h.2⟩
  rcases h.1 with ⟨_, h⟩ | ⟨h, _⟩
  · exact h
  · cases h
theorem sys_f (hx : Fct.at w D (.mx (.slice xa L.length xk) (L.map nl))) (hy : Fct.at w D (.rw (.slice ya b.length yk) b.length 1 (ncl b))) (hl : Laid w) (hv : MvI q n L) (hne : b.length = L.length) (hs : ∀ c ∈ b, c < q) (hR : redN q (sysL L b) n = (M, P)) (ht : noneB n (M, P) = false) :
    Calls Tryd.prog 74 #[.int .i64 (q : Nat), .slice xa L.length xk, .slice ya b.length yk] w fun e w' => (∃ ea ek pa pk, e = .returned (.tuple #[.slice ea M.length ek, .slice pa P.length pk, .int .i64 0]) ∧ Hid (Mx w' (fun b => D b ∨ w.heap.size ≤ b) (.slice ea M.length ek) (M.map nl)) ∧ Hid (Rw w' (fun b => D b ∨ w.heap.size ≤ b) (.slice pa P.length pk) P.length 1 (ncl P))) ∧ Below w.heap.size w w' := by
  refine (sys_ok q n L b hx hy hl hv hne hs (t := false) (by rw [hR]; exact ht)).mono fun e w' h => ⟨?_, h.2⟩
  have h1 := h.1
  rw [hR] at h1
  rcases h1 with ⟨h, _⟩ | ⟨_, h⟩
  · cases h
  · exact h
end
/-- what is known of a reduced system -/
structure SysI (q n m : Nat) (M : List (List Nat)) (P : List Nat) : Prop where
  res : ResM q (n + 1) M
  len : M.length = m
  few : P.length ≤ m
  fewn : P.length ≤ n
  lt : ∀ x ∈ P, x < n
  nod : P.Nodup
theorem SysI.of {q n : Nat} {L M : List (List Nat)} {b P : List Nat} (hv : MvI q n L) (hne : b.length = L.length) (hs : ∀ c ∈ b, c < q) (hR : redN q (sysL L b) n = (M, P)) : SysI q n L.length M P := by
  have h := redN_ok (q := q) (by have := hv.q2; omega) (sysL_res hv.res hs hne) n
  rw [hR, sysL_len] at h
  exact ⟨h.res, h.len, h.few.1, h.few.2, h.lt, h.nod⟩
set_option maxRecDepth 100000 in
set_option maxHeartbeats 1000000 in
theorem Solve_no {D : Nat → Prop} (q : Int) (M : List (List Int)) (b : List Int) {xa ya : Option Addr} {xk yk : Nat} {w : World} (hx : Fct.at w D (.mx (.slice xa M.length xk) M)) (hy : Fct.at w D (.rw (.slice ya b.length yk) b.length 1 (icl b))) (hl0 : Laid w) (hn : -9223372036854775808 ≤ q ∧ q ≤ 9223372036854775807) (hv0 : mvB q M = false) :
    Calls Tryd.prog 32 #[.int .i64 q, .slice xa M.length xk, .slice ya b.length yk] w fun e w' => e = .returned (.tuple #[.slice none 0 0, .slice none 0 0, .int .i64 1]) ∧ Below w.heap.size w w' := by
  have E0 : Hid (Env D w [] [.rw (.slice ya b.length yk) b.length 1 (icl b), .mx (.slice xa M.length xk) M] w) := Lib.hid (((Env.start D w).arg (.mx (.slice xa M.length xk) M) hx).arg (.rw (.slice ya b.length yk) b.length 1 (icl b)) hy)
  clear hx hy
  go_enter Tryd.func32, Tryd.ntmps32
  have hl := Lib.hid hl0
  have hv := Lib.hid hv0
  clear hl0 hv0
  go_wp2_with fail
  refine (sys_no q M b (E0.out.fc 1 rfl) (E0.out.fc 0 rfl) (hl.out.below E0.out.bel) hn hv.out).mono ?_
  rintro e w1 ⟨rfl, hb⟩
  have E1 : Hid (Env D w [] [.rw (.slice ya b.length yk) b.length 1 (icl b), .mx (.slice xa M.length xk) M] w1) := Lib.hid (E0.out.below hb)
  clear E0 hb
  have hfin := Lib.hid E1.out.bel
  go_wp2
  refine bodyPost_ret (results_tmp3 rfl _ _ _) rfl ?_
  exact ⟨rfl, hfin.out⟩
set_option maxRecDepth 100000 in
set_option maxHeartbeats 1000000 in
theorem Solve_len {D : Nat → Prop} (q n : Nat) (L : List (List Nat)) (b : List Int) {xa ya : Option Addr} {xk yk : Nat} {w : World} (hx : Fct.at w D (.mx (.slice xa L.length xk) (L.map nl))) (hy : Fct.at w D (.rw (.slice ya b.length yk) b.length 1 (icl b))) (hl0 : Laid w) (hv0 : MvI q n L) (hne : ¬ b.length = L.length) :
    Calls Tryd.prog 32 #[.int .i64 (q : Nat), .slice xa L.length xk, .slice ya b.length yk] w fun e w' => e = .returned (.tuple #[.slice none 0 0, .slice none 0 0, .int .i64 1]) ∧ Below w.heap.size w w' := by
  have E0 : Hid (Env D w [] [.rw (.slice ya b.length yk) b.length 1 (icl b), .mx (.slice xa L.length xk) (L.map nl)] w) := Lib.hid (((Env.start D w).arg (.mx (.slice xa L.length xk) (L.map nl)) hx).arg (.rw (.slice ya b.length yk) b.length 1 (icl b)) hy)
  clear hx hy
  go_enter Tryd.func32, Tryd.ntmps32
  have hl := Lib.hid hl0
  have hv := Lib.hid hv0
  clear hl0 hv0
  have HNE := Lib.hid hne
  clear hne
  go_wp2_with fail
  refine (sys_len q n L b (E0.out.fc 1 rfl) (E0.out.fc 0 rfl) (hl.out.below E0.out.bel) hv.out HNE.out).mono ?_
  rintro e w1 ⟨rfl, hb⟩
  have E1 : Hid (Env D w [] [.rw (.slice ya b.length yk) b.length 1 (icl b), .mx (.slice xa L.length xk) (L.map nl)] w1) := Lib.hid (E0.out.below hb)
  clear E0 hb
  have hfin := Lib.hid E1.out.bel
  go_wp2
  refine bodyPost_ret (results_tmp3 rfl _ _ _) rfl ?_
  exact ⟨rfl, hfin.out⟩
set_option maxRecDepth 100000 in
set_option maxHeartbeats 1000000 in
theorem Solve_rng {D : Nat → Prop} (q n : Nat) (L : List (List Nat)) (b : List Int) {xa ya : Option Addr} {xk yk : Nat} {w : World} (hx : Fct.at w D (.mx (.slice xa L.length xk) (L.map nl))) (hy : Fct.at w D (.rw (.slice ya b.length yk) b.length 1 (icl b))) (hl0 : Laid w) (hv0 : MvI q n L) (hne : b.length = L.length) (hs0 : b.all (resB (q : Int)) = false) :
    Calls Tryd.prog 32 #[.int .i64 (q : Nat), .slice xa L.length xk, .slice ya b.length yk] w fun e w' => e = .returned (.tuple #[.slice none 0 0, .slice none 0 0, .int .i64 2]) ∧ Below w.heap.size w w' := by
  have E0 : Hid (Env D w [] [.rw (.slice ya b.length yk) b.length 1 (icl b), .mx (.slice xa L.length xk) (L.map nl)] w) := Lib.hid (((Env.start D w).arg (.mx (.slice xa L.length xk) (L.map nl)) hx).arg (.rw (.slice ya b.length yk) b.length 1 (icl b)) hy)
  clear hx hy
  go_enter Tryd.func32, Tryd.ntmps32
  have hl := Lib.hid hl0
  have hv := Lib.hid hv0
  have hs := Lib.hid hs0
  clear hl0 hv0 hs0
  have HNE := Lib.hid hne
  clear hne
  go_wp2_with fail
  refine (sys_rng q n L b (E0.out.fc 1 rfl) (E0.out.fc 0 rfl) (hl.out.below E0.out.bel) hv.out HNE.out hs.out).mono ?_
  rintro e w1 ⟨rfl, hb⟩
  have E1 : Hid (Env D w [] [.rw (.slice ya b.length yk) b.length 1 (icl b), .mx (.slice xa L.length xk) (L.map nl)] w1) := Lib.hid (E0.out.below hb)
  clear E0 hb
  have hfin := Lib.hid E1.out.bel
  go_wp2
  refine bodyPost_ret (results_tmp3 rfl _ _ _) rfl ?_
  exact ⟨rfl, hfin.out⟩
set_option maxRecDepth 100000 in
set_option maxHeartbeats 8000000 in
theorem Solve_t {D : Nat → Prop} (q n : Nat) (L M : List (List Nat)) (b P : List Nat) {xa ya : Option Addr} {xk yk : Nat} {w : World} (hx : Fct.at w D (.mx (.slice xa L.length xk) (L.map nl))) (hy : Fct.at w D (.rw (.slice ya b.length yk) b.length 1 (ncl b))) (hl0 : Laid w) (hv0 : MvI q n L) (hne0 : b.length = L.length) (hs0 : ∀ c ∈ b, c < q) (hR0 : redN q (sysL L b) n = (M, P)) (ht0 : noneB n (M, P) = true) :
    Calls Tryd.prog 32 #[.int .i64 (q : Nat), .slice xa L.length xk, .slice ya b.length yk] w fun e w' => e = .returned (.tuple #[.slice none 0 0, .slice none 0 0, .int .i64 7]) ∧ Below w.heap.size w w' := by
  have E0 : Hid (Env D w [] [.rw (.slice ya b.length yk) b.length 1 (ncl b), .mx (.slice xa L.length xk) (L.map nl)] w) := Lib.hid (((Env.start D w).arg (.mx (.slice xa L.length xk) (L.map nl)) hx).arg (.rw (.slice ya b.length yk) b.length 1 (ncl b)) hy)
  clear hx hy
  go_enter Tryd.func32, Tryd.ntmps32
  have hl := Lib.hid hl0
  have hv := Lib.hid hv0
  have hne := Lib.hid hne0
  have hs := Lib.hid hs0
  have hR := Lib.hid hR0
  have ht := Lib.hid ht0
  clear hl0 hv0 hne0 hs0 hR0 ht0
  have HI := Lib.hid (SysI.of hv.out hne.out hs.out hR.out)
  have m30 := hv.out.m30
  have n30 := hv.out.n30
  have hz : 0 < L.length := hv.out.m1
  have hzI : (0 : Int) < (L.length : Int) := by omega
  have HL0 : Hid (L[0].length = n) := Lib.hid (hv.out.res _ (List.getElem_mem hz)).1
  have hpm : P.length ≤ L.length := HI.out.few
  have hpn : P.length ≤ n := HI.out.fewn
  have HML : Hid (M.length = L.length) := Lib.hid HI.out.len
  go_wp2_with fail
  refine (sys_t (E0.out.fc 1 rfl) (E0.out.fc 0 rfl) (hl.out.below E0.out.bel) hv.out hne.out hs.out hR.out ht.out).mono ?_
  rintro e w1 ⟨rfl, hb⟩
  have E1 : Hid (Env D w [] [.rw (.slice ya b.length yk) b.length 1 (ncl b), .mx (.slice xa L.length xk) (L.map nl)] w1) := Lib.hid (E0.out.below hb)
  clear E0 hb
  have hfin := Lib.hid E1.out.bel
  go_wp2
  refine bodyPost_ret (results_tmp3 rfl _ _ _) rfl ?_
  exact ⟨rfl, hfin.out⟩
/-- a vector and rows came back -/
def RetXK (D : Nat → Prop) (X : List Nat) (K : List (List Nat)) (c : Int) (e : Ending) (w' : World) : Prop := ∃ xa xk ka kk, e = .returned (.tuple #[.slice xa X.length xk, .slice ka K.length kk, .int .i64 c]) ∧ Hid (Rw w' D (.slice xa X.length xk) X.length 1 (ncl X)) ∧ Hid (Mx w' D (.slice ka K.length kk) (K.map nl))
set_option maxRecDepth 100000 in
set_option maxHeartbeats 8000000 in
theorem Solve_f {D : Nat → Prop} (q n : Nat) (L M : List (List Nat)) (b P : List Nat) {xa ya : Option Addr} {xk yk : Nat} {w : World} (hx : Fct.at w D (.mx (.slice xa L.length xk) (L.map nl))) (hy : Fct.at w D (.rw (.slice ya b.length yk) b.length 1 (ncl b))) (hl0 : Laid w) (hv0 : MvI q n L) (hne0 : b.length = L.length) (hs0 : ∀ c ∈ b, c < q) (hR0 : redN q (sysL L b) n = (M, P)) (ht0 : noneB n (M, P) = false) :
    Calls Tryd.prog 32 #[.int .i64 (q : Nat), .slice xa L.length xk, .slice ya b.length yk] w fun e w' => RetXK (fun b => D b ∨ w.heap.size ≤ b) (partV n P M P.length) (kerL q n P M n) 0 e w' ∧ Below w.heap.size w w' := by
  have E0 : Hid (Env D w [] [.rw (.slice ya b.length yk) b.length 1 (ncl b), .mx (.slice xa L.length xk) (L.map nl)] w) := Lib.hid (((Env.start D w).arg (.mx (.slice xa L.length xk) (L.map nl)) hx).arg (.rw (.slice ya b.length yk) b.length 1 (ncl b)) hy)
  clear hx hy
  go_enter Tryd.func32, Tryd.ntmps32
  have hl := Lib.hid hl0
  have hv := Lib.hid hv0
  have hne := Lib.hid hne0
  have hs := Lib.hid hs0
  have hR := Lib.hid hR0
  have ht := Lib.hid ht0
  clear hl0 hv0 hne0 hs0 hR0 ht0
  have HI := Lib.hid (SysI.of hv.out hne.out hs.out hR.out)
  have m30 := hv.out.m30
  have n30 := hv.out.n30
  have hz : 0 < L.length := hv.out.m1
  have hzI : (0 : Int) < (L.length : Int) := by omega
  have HL0 : Hid (L[0].length = n) := Lib.hid (hv.out.res _ (List.getElem_mem hz)).1
  have hpm : P.length ≤ L.length := HI.out.few
  have hpn : P.length ≤ n := HI.out.fewn
  have HML : Hid (M.length = L.length) := Lib.hid HI.out.len
  go_wp2_with fail
  refine (sys_f (E0.out.fc 1 rfl) (E0.out.fc 0 rfl) (hl.out.below E0.out.bel) hv.out hne.out hs.out hR.out ht.out).mono ?_
  rintro e w1 ⟨⟨ea, ek, pa, pk, rfl, gH, pH⟩, hb⟩
  have E1 : Hid (Env D w [] [.rw (.slice pa P.length pk) P.length 1 (ncl P), .mx (.slice ea M.length ek) (M.map nl), .rw (.slice ya b.length yk) b.length 1 (ncl b), .mx (.slice xa L.length xk) (L.map nl)] w1) := Lib.hid (E0.out.got (E0.out.got (E0.out.below hb) (.mx (.slice ea M.length ek) (M.map nl)) gH.out) (.rw (.slice pa P.length pk) P.length 1 (ncl P)) pH.out)
  clear E0 hb gH pH
  go_upto_region 4 with (fail)
  obtain ⟨xab, xao, rfl⟩ := Mx.addrN (E1.out.fc 3 rfl) hz
  obtain ⟨ua, uk, E20⟩ := E1.out.elMN 3 rfl (0) hz
  have E2 : Hid (Env D w [] [.ce xab (xao) (.slice ua L[0].length uk), .rw (.slice ua L[0].length uk) L[0].length 1 (ncl L[0]), .rw (.slice pa P.length pk) P.length 1 (ncl P), .mx (.slice ea M.length ek) (M.map nl), .rw (.slice ya b.length yk) b.length 1 (ncl b), .mx (.slice (some ⟨xab, xao, none⟩) L.length xk) (L.map nl)] _) := Lib.hid E20
  clear E20 E1
  have u0 := (E2.out.fc 0 rfl).2
  have hl0 := HL0.out
  go_upto_region 5 with (fail)
  clear hl0
  go_wp2_with (at_make; refine wpl_makeI rfl _ _ rfl E2.out n rfl rfl (by omega) ?_)
  intro w2 xg xgE
  have E3 : Hid (Env D w [(xg, 3, (ncl (List.replicate n 0)))] [.ce xab (xao) (.slice ua L[0].length uk), .rw (.slice ua L[0].length uk) L[0].length 1 (ncl L[0]), .rw (.slice pa P.length pk) P.length 1 (ncl P), .mx (.slice ea M.length ek) (M.map nl), .rw (.slice ya b.length yk) b.length 1 (ncl b), .mx (.slice (some ⟨xab, xao, none⟩) L.length xk) (L.map nl)] w2) := Lib.hid (by have h := xgE.out; rw [ncl_rep] at h; exact h)
  clear u0 E2 xgE
  go_wp2_with fail
  go_loopg [37] (P.length) (fun gk s37 wr => ∃ (i : Nat), s37 = .int .i64 (i : Int) ∧ Hid (Env D w [(xg, 3, (ncl (partV n P M i)))] [.ce xab (xao) (.slice ua L[0].length uk), .rw (.slice ua L[0].length uk) L[0].length 1 (ncl L[0]), .rw (.slice pa P.length pk) P.length 1 (ncl P), .mx (.slice ea M.length ek) (M.map nl), .rw (.slice ya b.length yk) b.length 1 (ncl b), .mx (.slice (some ⟨xab, xao, none⟩) L.length xk) (L.map nl)] wr) ∧ Hid (i ≤ P.length ∧ gk = P.length - i))
  case atStart => exact ⟨0, rfl, Lib.hid E3.out, Lib.hid ⟨Nat.zero_le _, rfl⟩⟩
  case round =>
    clear E3
    obtain ⟨i, rfl, EL, HA⟩ := hrel
    obtain ⟨a1, a2⟩ := HA.out
    clear HA
    by_cases hy : i = P.length
    rotate_left
    · have hi : i < P.length := by omega
      have t6 : decide ((i : Int) < (P.length : Int)) = true := decide_eq_true (by omega)
      have t6n : decide (i < P.length) = true := decide_eq_true (by omega)
      have hiI : (i : Int) < (P.length : Int) := by omega
      clear hy
      go_upto_region 8 with (fail)
      obtain ⟨pab, pao, rfl⟩ := Rw.addr (EL.out.fc 2 rfl) (by omega)
      have E4 : Hid (Env D w [(xg, 3, (ncl (partV n P M i)))] [.ce pab (pao + i) (.int .i64 (P[i] : Nat)), .ce xab (xao) (.slice ua L[0].length uk), .rw (.slice ua L[0].length uk) L[0].length 1 (ncl L[0]), .rw (.slice (some ⟨pab, pao, none⟩) P.length pk) P.length 1 (ncl P), .mx (.slice ea M.length ek) (M.map nl), .rw (.slice ya b.length yk) b.length 1 (ncl b), .mx (.slice (some ⟨xab, xao, none⟩) L.length xk) (L.map nl)] _) := Lib.hid (EL.out.elN 2 rfl rfl (i) hi)
      clear EL
      have p0 := (E4.out.fc 0 rfl).2
      go_upto_region 9 with (fail)
      have him : i < M.length := by rw [HML.out]; omega
      have himI : (i : Int) < (M.length : Int) := by omega
      have HMR : Hid (M[i].length = n + 1 ∧ ∀ x ∈ M[i], x < q) := Lib.hid (HI.out.res _ (List.getElem_mem him))
      have HPI : Hid (P[i] < n) := Lib.hid (HI.out.lt _ (List.getElem_mem hi))
      have hpi := HPI.out
      have hpiI : ((P[i] : Nat) : Int) < (n : Int) := Int.ofNat_lt.2 hpi
      obtain ⟨eab, eao, rfl⟩ := Mx.addrN (E4.out.fc 4 rfl) him
      obtain ⟨ma, mk, E50⟩ := E4.out.elMN 4 rfl (i) him
      have E5 : Hid (Env D w [(xg, 3, (ncl (partV n P M i)))] [.ce eab (eao + i) (.slice ma M[i].length mk), .rw (.slice ma M[i].length mk) M[i].length 1 (ncl M[i]), .ce pab (pao + i) (.int .i64 (P[i] : Nat)), .ce xab (xao) (.slice ua L[0].length uk), .rw (.slice ua L[0].length uk) L[0].length 1 (ncl L[0]), .rw (.slice (some ⟨pab, pao, none⟩) P.length pk) P.length 1 (ncl P), .mx (.slice (some ⟨eab, eao, none⟩) M.length ek) (M.map nl), .rw (.slice ya b.length yk) b.length 1 (ncl b), .mx (.slice (some ⟨xab, xao, none⟩) L.length xk) (L.map nl)] _) := Lib.hid E50
      clear E50 E4
      have m0 := (E5.out.fc 0 rfl).2
      have hnm : n < M[i].length := by rw [HMR.out.1]; omega
      have hnmI : (n : Int) < (M[i].length : Int) := by omega
      obtain ⟨mab, mao, rfl⟩ := Rw.addr (E5.out.fc 1 rfl) (by omega)
      have E6 : Hid (Env D w [(xg, 3, (ncl (partV n P M i)))] [.ce mab (mao + n) (.int .i64 (M[i][n] : Nat)), .ce eab (eao + i) (.slice (some ⟨mab, mao, none⟩) M[i].length mk), .rw (.slice (some ⟨mab, mao, none⟩) M[i].length mk) M[i].length 1 (ncl M[i]), .ce pab (pao + i) (.int .i64 (P[i] : Nat)), .ce xab (xao) (.slice ua L[0].length uk), .rw (.slice ua L[0].length uk) L[0].length 1 (ncl L[0]), .rw (.slice (some ⟨pab, pao, none⟩) P.length pk) P.length 1 (ncl P), .mx (.slice (some ⟨eab, eao, none⟩) M.length ek) (M.map nl), .rw (.slice ya b.length yk) b.length 1 (ncl b), .mx (.slice (some ⟨xab, xao, none⟩) L.length xk) (L.map nl)] _) := Lib.hid (E5.out.elN 1 rfl rfl (n) hnm)
      clear E5
      have v0 := (E6.out.fc 0 rfl).2
      obtain ⟨xv, hxv⟩ : ∃ v, (ncl (partV n P M i))[P[i]]? = some v := by have h := partV_len (n := n) (P := P) (M := M) i; have h2 := HPI.out; exact ⟨_, List.getElem?_eq_getElem (show P[i] < (ncl (partV n P M i)).length by rw [ncl_len, h]; omega)⟩
      have bg := E6.out.bx 0 rfl
      have c1 := bg.cell (P[i]) (hxv)
      have c2 := bg.frozen (P[i])
      clear bg
      clear hxv
      have hpst := Lib.hid (partV_step hi him hnm)
      have E7 : Hid (Env D w [(xg, 3, (((ncl (partV n P M i))).set (P[i]) (.int .i64 (M[i][n] : Nat))))] [.ce mab (mao + n) (.int .i64 (M[i][n] : Nat)), .ce eab (eao + i) (.slice (some ⟨mab, mao, none⟩) M[i].length mk), .rw (.slice (some ⟨mab, mao, none⟩) M[i].length mk) M[i].length 1 (ncl M[i]), .ce pab (pao + i) (.int .i64 (P[i] : Nat)), .ce xab (xao) (.slice ua L[0].length uk), .rw (.slice ua L[0].length uk) L[0].length 1 (ncl L[0]), .rw (.slice (some ⟨pab, pao, none⟩) P.length pk) P.length 1 (ncl P), .mx (.slice (some ⟨eab, eao, none⟩) M.length ek) (M.map nl), .rw (.slice ya b.length yk) b.length 1 (ncl b), .mx (.slice (some ⟨xab, xao, none⟩) L.length xk) (L.map nl)] _) := Lib.hid ((E6.out.set 0 (P[i]) (.int .i64 (M[i][n] : Nat)) rfl))
      have E8 : Hid (Env D w [(xg, 3, (ncl (partV n P M (i + 1))))] [.ce mab (mao + n) (.int .i64 (M[i][n] : Nat)), .ce eab (eao + i) (.slice (some ⟨mab, mao, none⟩) M[i].length mk), .rw (.slice (some ⟨mab, mao, none⟩) M[i].length mk) M[i].length 1 (ncl M[i]), .ce pab (pao + i) (.int .i64 (P[i] : Nat)), .ce xab (xao) (.slice ua L[0].length uk), .rw (.slice ua L[0].length uk) L[0].length 1 (ncl L[0]), .rw (.slice (some ⟨pab, pao, none⟩) P.length pk) P.length 1 (ncl P), .mx (.slice (some ⟨eab, eao, none⟩) M.length ek) (M.map nl), .rw (.slice ya b.length yk) b.length 1 (ncl b), .mx (.slice (some ⟨xab, xao, none⟩) L.length xk) (L.map nl)] _) := Lib.hid (by have h := E7.out; rw [hpst.out] at h; exact h)
      have EZ := Lib.hid ((((E8.out.forget).forget).forget).forget)
      go_wp2
      go_roundg (P.length - (i + 1))
      case rel => exact ⟨i + 1, rfl, EZ, Lib.hid ⟨by omega, rfl⟩⟩
      case measure => exact by omega
    have t6 : decide ((i : Int) < (P.length : Int)) = false := decide_eq_false (by omega)
    have t6n : decide (i < P.length) = false := decide_eq_false (by omega)
    have HY := Lib.hid hy
    clear hy
    go_upto_region 11 with (fail)
    have E4 : Hid (Env D w [] [.rw (.slice (some ⟨xg, 0, none⟩) n n) n 1 (ncl (partV n P M P.length)), .ce xab (xao) (.slice ua L[0].length uk), .rw (.slice ua L[0].length uk) L[0].length 1 (ncl L[0]), .rw (.slice pa P.length pk) P.length 1 (ncl P), .mx (.slice ea M.length ek) (M.map nl), .rw (.slice ya b.length yk) b.length 1 (ncl b), .mx (.slice (some ⟨xab, xao, none⟩) L.length xk) (L.map nl)] _) := Lib.hid (by have h := EL.out; rw [HY.out] at h; exact Env.freezeNn _ h (partV_len _) (by omega))
    go_wp2_with fail
    go_loopg [54, 7] (n) (fun gk s54 s7 wr => ∃ (f : Nat) (tg : List Bx) (ts : List Value) (ta : Option Addr) (tk : Nat) (hs : List Value) (O : List (List Nat)), s54 = .int .i64 (f : Int) ∧ s7 = .slice ta O.length tk ∧ Hid (Env D w tg [.gn (gRows hs O), .rw (.slice (some ⟨xg, 0, none⟩) n n) n 1 (ncl (partV n P M P.length)), .ce xab (xao) (.slice ua L[0].length uk), .rw (.slice ua L[0].length uk) L[0].length 1 (ncl L[0]), .rw (.slice pa P.length pk) P.length 1 (ncl P), .mx (.slice ea M.length ek) (M.map nl), .rw (.slice ya b.length yk) b.length 1 (ncl b), .mx (.slice (some ⟨xab, xao, none⟩) L.length xk) (L.map nl)] wr) ∧ Hid (OM tg ts (.slice ta O.length tk) hs O.length) ∧ Hid ((f ≤ n ∧ gk = n - f) ∧ O = kerL q n P M f))
    case atStart => exact ⟨0, [], [], none, 0, [], [], rfl, rfl, Lib.hid ((E4.out.note (.gn (gRows [] [])) gRows.nil).cast (by simp)), Lib.hid OM.nil, Lib.hid ⟨⟨Nat.zero_le _, rfl⟩, rfl⟩⟩
    case round =>
      clear EL E4
      obtain ⟨f, tg, ts, ta, tk, hs, O, rfl, rfl, EL, hM, HA⟩ := hrel
      obtain ⟨⟨b1, b2⟩, b3⟩ := HA.out
      have HPO := Lib.hid b3
      clear b3 HA
      have hol : O.length ≤ 30 := by rw [HPO.out]; exact Nat.le_trans (kerL_len_le _) (by omega)
      by_cases hy : f = n
      · skip
        have t7 : decide ((f : Int) < (n : Int)) = false := decide_eq_false (by omega)
        have t7n : decide (f < n) = false := decide_eq_false (by omega)
        have HD : Hid (O = kerL q n P M n) := Lib.hid (by rw [HPO.out, hy])
        clear hy
        have hbel := Lib.hid EL.out.bel
        go_wp2
        refine bodyPost_ret (results_tmp3 rfl _ _ _) rfl ?_
        have EF := Env.freezeOM (A := []) (sg := tg) (B := []) (EL.out.cast (by first | rfl | simp)) hM.out 0 rfl
        have h1 : Fct.at _ _ _ := EF.out 0 rfl
        have h2 : Fct.at _ _ _ := EF.out 2 rfl
        rw [HD.out] at h1
        have hpl := partV_len (n := n) (P := P) (M := M) P.length
        refine ⟨⟨some ⟨xg, 0, none⟩, n, ta, tk, by rw [hpl, ← HD.out]; rfl, Lib.hid (by rw [hpl]; exact h2), Lib.hid h1⟩, hbel.out⟩
      have hf : f < n := by omega
      have t7 : decide ((f : Int) < (n : Int)) = true := decide_eq_true (by omega)
      have t7n : decide (f < n) = true := decide_eq_true (by omega)
      have hfI : (f : Int) < (n : Int) := by omega
      clear hy
      go_upto_region 14 with (fail)
      obtain ⟨pc, hpc⟩ : ∃ t, P.contains f = t := ⟨_, rfl⟩
      have HPC := Lib.hid hpc
      clear hpc
      cases pc with
      | true =>
        go_wp2_with fail
        refine (containsN_c (l := P) (x := f) (EL.out.fc 4 rfl) (by omega) (t := true) HPC.out).mono ?_
        rintro e w3 ⟨rfl, hb⟩
        have E5 : Hid (Env D w tg [.gn (gRows hs O), .rw (.slice (some ⟨xg, 0, none⟩) n n) n 1 (ncl (partV n P M P.length)), .ce xab (xao) (.slice ua L[0].length uk), .rw (.slice ua L[0].length uk) L[0].length 1 (ncl L[0]), .rw (.slice pa P.length pk) P.length 1 (ncl P), .mx (.slice ea M.length ek) (M.map nl), .rw (.slice ya b.length yk) b.length 1 (ncl b), .mx (.slice (some ⟨xab, xao, none⟩) L.length xk) (L.map nl)] w3) := Lib.hid (EL.out.below hb)
        clear EL hb
        have EZ := Lib.hid (E5.out)
        go_wp2
        go_roundg (n - (f + 1))
        case rel => exact ⟨f + 1, tg, ts, ta, tk, hs, O, rfl, rfl, EZ, hM, Lib.hid ⟨⟨by omega, rfl⟩, by rw [kerL_skip HPC.out]; exact HPO.out⟩⟩
        case measure => exact by omega
      | false =>
        go_wp2_with fail
        refine (containsN_c (l := P) (x := f) (EL.out.fc 4 rfl) (by omega) (t := false) HPC.out).mono ?_
        rintro e w3 ⟨rfl, hb⟩
        have E5 : Hid (Env D w tg [.gn (gRows hs O), .rw (.slice (some ⟨xg, 0, none⟩) n n) n 1 (ncl (partV n P M P.length)), .ce xab (xao) (.slice ua L[0].length uk), .rw (.slice ua L[0].length uk) L[0].length 1 (ncl L[0]), .rw (.slice pa P.length pk) P.length 1 (ncl P), .mx (.slice ea M.length ek) (M.map nl), .rw (.slice ya b.length yk) b.length 1 (ncl b), .mx (.slice (some ⟨xab, xao, none⟩) L.length xk) (L.map nl)] w3) := Lib.hid (EL.out.below hb)
        clear EL hb
        go_upto_region 15 with (fail)
        go_wp2_with (at_make; refine wpl_makeI rfl _ _ rfl E5.out n rfl rfl (by omega) ?_)
        intro w4 vg vgE
        have E6 : Hid (Env D w ((vg, 3, (ncl (List.replicate n 0))) :: tg) [.gn (gRows hs O), .rw (.slice (some ⟨xg, 0, none⟩) n n) n 1 (ncl (partV n P M P.length)), .ce xab (xao) (.slice ua L[0].length uk), .rw (.slice ua L[0].length uk) L[0].length 1 (ncl L[0]), .rw (.slice pa P.length pk) P.length 1 (ncl P), .mx (.slice ea M.length ek) (M.map nl), .rw (.slice ya b.length yk) b.length 1 (ncl b), .mx (.slice (some ⟨xab, xao, none⟩) L.length xk) (L.map nl)] w4) := Lib.hid (by have h := vgE.out; rw [ncl_rep] at h; exact h)
        clear E5 vgE
        obtain ⟨xv, hxv⟩ : ∃ v, (ncl (List.replicate n 0))[f]? = some v := ⟨_, List.getElem?_eq_getElem (by rw [ncl_len, List.length_replicate]; omega)⟩
        have bg := E6.out.bx 0 rfl
        have c1 := bg.cell (f) (hxv)
        have c2 := bg.frozen (f)
        clear bg
        clear hxv
        have hk0 : Hid ((ncl (List.replicate n 0)).set f (.int .i64 ((1 : Nat) : Int)) = ncl (kerV q n P M f 0)) := Lib.hid (ncl_set _ _ _)
        have E7 : Hid (Env D w ((vg, 3, (((ncl (List.replicate n 0))).set (f) (.int .i64 1))) :: tg) [.gn (gRows hs O), .rw (.slice (some ⟨xg, 0, none⟩) n n) n 1 (ncl (partV n P M P.length)), .ce xab (xao) (.slice ua L[0].length uk), .rw (.slice ua L[0].length uk) L[0].length 1 (ncl L[0]), .rw (.slice pa P.length pk) P.length 1 (ncl P), .mx (.slice ea M.length ek) (M.map nl), .rw (.slice ya b.length yk) b.length 1 (ncl b), .mx (.slice (some ⟨xab, xao, none⟩) L.length xk) (L.map nl)] _) := Lib.hid ((E6.out.set 0 f (.int .i64 1) rfl))
        have E8 : Hid (Env D w ((vg, 3, (ncl (kerV q n P M f 0))) :: tg) [.gn (gRows hs O), .rw (.slice (some ⟨xg, 0, none⟩) n n) n 1 (ncl (partV n P M P.length)), .ce xab (xao) (.slice ua L[0].length uk), .rw (.slice ua L[0].length uk) L[0].length 1 (ncl L[0]), .rw (.slice pa P.length pk) P.length 1 (ncl P), .mx (.slice ea M.length ek) (M.map nl), .rw (.slice ya b.length yk) b.length 1 (ncl b), .mx (.slice (some ⟨xab, xao, none⟩) L.length xk) (L.map nl)] _) := Lib.hid (by have h := E7.out; rw [show (ncl (List.replicate n 0)).set f (.int .i64 1) = ncl (kerV q n P M f 0) from hk0.out] at h; exact h)
        go_wp2_with fail
        clear t7 t7n
        rename World => wo
        go_loopg [67] (P.length) (fun gk s67 wr => ∃ (i : Nat), s67 = .int .i64 (i : Int) ∧ Hid (Env D w ((vg, 3, (ncl (kerV q n P M f i))) :: tg) [.gn (gRows hs O), .rw (.slice (some ⟨xg, 0, none⟩) n n) n 1 (ncl (partV n P M P.length)), .ce xab (xao) (.slice ua L[0].length uk), .rw (.slice ua L[0].length uk) L[0].length 1 (ncl L[0]), .rw (.slice pa P.length pk) P.length 1 (ncl P), .mx (.slice ea M.length ek) (M.map nl), .rw (.slice ya b.length yk) b.length 1 (ncl b), .mx (.slice (some ⟨xab, xao, none⟩) L.length xk) (L.map nl)] wr) ∧ Hid (i ≤ P.length ∧ gk = P.length - i))
        case atStart => exact ⟨0, rfl, Lib.hid E8.out, Lib.hid ⟨Nat.zero_le _, rfl⟩⟩
        case round =>
          clear c1 c2 E6 E7 E8
          obtain ⟨i, rfl, EL, HA⟩ := hrel
          obtain ⟨c1, c2⟩ := HA.out
          clear HA
          by_cases hy : i = P.length
          rotate_left
          · have hi : i < P.length := by omega
            have t8 : decide ((i : Int) < (P.length : Int)) = true := decide_eq_true (by omega)
            have t8n : decide (i < P.length) = true := decide_eq_true (by omega)
            have hiI : (i : Int) < (P.length : Int) := by omega
            clear hy
            go_upto_region 19 with (fail)
            obtain ⟨pab, pao, rfl⟩ := Rw.addr (EL.out.fc 4 rfl) (by omega)
            have E9 : Hid (Env D w ((vg, 3, (ncl (kerV q n P M f i))) :: tg) [.ce pab (pao + i) (.int .i64 (P[i] : Nat)), .gn (gRows hs O), .rw (.slice (some ⟨xg, 0, none⟩) n n) n 1 (ncl (partV n P M P.length)), .ce xab (xao) (.slice ua L[0].length uk), .rw (.slice ua L[0].length uk) L[0].length 1 (ncl L[0]), .rw (.slice (some ⟨pab, pao, none⟩) P.length pk) P.length 1 (ncl P), .mx (.slice ea M.length ek) (M.map nl), .rw (.slice ya b.length yk) b.length 1 (ncl b), .mx (.slice (some ⟨xab, xao, none⟩) L.length xk) (L.map nl)] _) := Lib.hid (EL.out.elN 4 rfl rfl (i) hi)
            clear EL
            have p0 := (E9.out.fc 0 rfl).2
            go_upto_region 20 with (fail)
            have him : i < M.length := by rw [HML.out]; omega
            have himI : (i : Int) < (M.length : Int) := by omega
            have HMR : Hid (M[i].length = n + 1 ∧ ∀ x ∈ M[i], x < q) := Lib.hid (HI.out.res _ (List.getElem_mem him))
            have HPI : Hid (P[i] < n) := Lib.hid (HI.out.lt _ (List.getElem_mem hi))
            have hpi := HPI.out
            have hpiI : ((P[i] : Nat) : Int) < (n : Int) := Int.ofNat_lt.2 hpi
            obtain ⟨eab, eao, rfl⟩ := Mx.addrN (E9.out.fc 6 rfl) him
            obtain ⟨ma, mk, E100⟩ := E9.out.elMN 6 rfl (i) him
            have E10 : Hid (Env D w ((vg, 3, (ncl (kerV q n P M f i))) :: tg) [.ce eab (eao + i) (.slice ma M[i].length mk), .rw (.slice ma M[i].length mk) M[i].length 1 (ncl M[i]), .ce pab (pao + i) (.int .i64 (P[i] : Nat)), .gn (gRows hs O), .rw (.slice (some ⟨xg, 0, none⟩) n n) n 1 (ncl (partV n P M P.length)), .ce xab (xao) (.slice ua L[0].length uk), .rw (.slice ua L[0].length uk) L[0].length 1 (ncl L[0]), .rw (.slice (some ⟨pab, pao, none⟩) P.length pk) P.length 1 (ncl P), .mx (.slice (some ⟨eab, eao, none⟩) M.length ek) (M.map nl), .rw (.slice ya b.length yk) b.length 1 (ncl b), .mx (.slice (some ⟨xab, xao, none⟩) L.length xk) (L.map nl)] _) := Lib.hid E100
            clear E100 E9
            have m0 := (E10.out.fc 0 rfl).2
            have hfm : f < M[i].length := by rw [HMR.out.1]; omega
            have hfmI : (f : Int) < (M[i].length : Int) := by omega
            obtain ⟨mab, mao, rfl⟩ := Rw.addr (E10.out.fc 1 rfl) (by omega)
            have E11 : Hid (Env D w ((vg, 3, (ncl (kerV q n P M f i))) :: tg) [.ce mab (mao + f) (.int .i64 (M[i][f] : Nat)), .ce eab (eao + i) (.slice (some ⟨mab, mao, none⟩) M[i].length mk), .rw (.slice (some ⟨mab, mao, none⟩) M[i].length mk) M[i].length 1 (ncl M[i]), .ce pab (pao + i) (.int .i64 (P[i] : Nat)), .gn (gRows hs O), .rw (.slice (some ⟨xg, 0, none⟩) n n) n 1 (ncl (partV n P M P.length)), .ce xab (xao) (.slice ua L[0].length uk), .rw (.slice ua L[0].length uk) L[0].length 1 (ncl L[0]), .rw (.slice (some ⟨pab, pao, none⟩) P.length pk) P.length 1 (ncl P), .mx (.slice (some ⟨eab, eao, none⟩) M.length ek) (M.map nl), .rw (.slice ya b.length yk) b.length 1 (ncl b), .mx (.slice (some ⟨xab, xao, none⟩) L.length xk) (L.map nl)] _) := Lib.hid (E10.out.elN 1 rfl rfl (f) hfm)
            clear E10
            have v0 := (E11.out.fc 0 rfl).2
            have hmq : ((M[i][f] : Nat) : Int) < (q : Int) := Int.ofNat_lt.2 (HMR.out.2 _ (List.getElem_mem hfm))
            go_wp2_with fail
            refine (matminus_c q M[i][f] _ hmq hv.out.qT).mono ?_
            rintro e w5 ⟨⟨r, rh, rfl⟩, hb⟩
            have E12 : Hid (Env D w ((vg, 3, (ncl (kerV q n P M f i))) :: tg) [.ce mab (mao + f) (.int .i64 (M[i][f] : Nat)), .ce eab (eao + i) (.slice (some ⟨mab, mao, none⟩) M[i].length mk), .rw (.slice (some ⟨mab, mao, none⟩) M[i].length mk) M[i].length 1 (ncl M[i]), .ce pab (pao + i) (.int .i64 (P[i] : Nat)), .gn (gRows hs O), .rw (.slice (some ⟨xg, 0, none⟩) n n) n 1 (ncl (partV n P M P.length)), .ce xab (xao) (.slice ua L[0].length uk), .rw (.slice ua L[0].length uk) L[0].length 1 (ncl L[0]), .rw (.slice (some ⟨pab, pao, none⟩) P.length pk) P.length 1 (ncl P), .mx (.slice (some ⟨eab, eao, none⟩) M.length ek) (M.map nl), .rw (.slice ya b.length yk) b.length 1 (ncl b), .mx (.slice (some ⟨xab, xao, none⟩) L.length xk) (L.map nl)] w5) := Lib.hid (E11.out.below hb)
            clear p0 m0 v0 E11 hb
            obtain ⟨xv, hxv⟩ : ∃ v, (ncl (kerV q n P M f i))[P[i]]? = some v := by have h := kerV_len (q := q) (n := n) (P := P) (M := M) (f := f) i; have h2 := HPI.out; exact ⟨_, List.getElem?_eq_getElem (show P[i] < (ncl (kerV q n P M f i)).length by rw [ncl_len, h]; omega)⟩
            have bg := E12.out.bx 0 rfl
            have c1 := bg.cell (P[i]) (hxv)
            have c2 := bg.frozen (P[i])
            clear bg
            clear hxv
            have hpst := Lib.hid (kerV_step (q := q) (n := n) hi him hfm rh.out)
            have E13 : Hid (Env D w ((vg, 3, (((ncl (kerV q n P M f i))).set (P[i]) (.int .i64 (r : Nat)))) :: tg) [.ce mab (mao + f) (.int .i64 (M[i][f] : Nat)), .ce eab (eao + i) (.slice (some ⟨mab, mao, none⟩) M[i].length mk), .rw (.slice (some ⟨mab, mao, none⟩) M[i].length mk) M[i].length 1 (ncl M[i]), .ce pab (pao + i) (.int .i64 (P[i] : Nat)), .gn (gRows hs O), .rw (.slice (some ⟨xg, 0, none⟩) n n) n 1 (ncl (partV n P M P.length)), .ce xab (xao) (.slice ua L[0].length uk), .rw (.slice ua L[0].length uk) L[0].length 1 (ncl L[0]), .rw (.slice (some ⟨pab, pao, none⟩) P.length pk) P.length 1 (ncl P), .mx (.slice (some ⟨eab, eao, none⟩) M.length ek) (M.map nl), .rw (.slice ya b.length yk) b.length 1 (ncl b), .mx (.slice (some ⟨xab, xao, none⟩) L.length xk) (L.map nl)] _) := Lib.hid ((E12.out.set 0 (P[i]) (.int .i64 (r : Nat)) rfl))
            have E14 : Hid (Env D w ((vg, 3, (ncl (kerV q n P M f (i + 1)))) :: tg) [.ce mab (mao + f) (.int .i64 (M[i][f] : Nat)), .ce eab (eao + i) (.slice (some ⟨mab, mao, none⟩) M[i].length mk), .rw (.slice (some ⟨mab, mao, none⟩) M[i].length mk) M[i].length 1 (ncl M[i]), .ce pab (pao + i) (.int .i64 (P[i] : Nat)), .gn (gRows hs O), .rw (.slice (some ⟨xg, 0, none⟩) n n) n 1 (ncl (partV n P M P.length)), .ce xab (xao) (.slice ua L[0].length uk), .rw (.slice ua L[0].length uk) L[0].length 1 (ncl L[0]), .rw (.slice (some ⟨pab, pao, none⟩) P.length pk) P.length 1 (ncl P), .mx (.slice (some ⟨eab, eao, none⟩) M.length ek) (M.map nl), .rw (.slice ya b.length yk) b.length 1 (ncl b), .mx (.slice (some ⟨xab, xao, none⟩) L.length xk) (L.map nl)] _) := Lib.hid (by have h := E13.out; rw [hpst.out] at h; exact h)
            have EZ := Lib.hid ((((E14.out.forget).forget).forget).forget)
            go_wp2
            go_roundg (P.length - (i + 1))
            case rel => exact ⟨i + 1, rfl, EZ, Lib.hid ⟨by omega, rfl⟩⟩
            case measure => exact by omega
          have t8 : decide ((i : Int) < (P.length : Int)) = false := decide_eq_false (by omega)
          have t8n : decide (i < P.length) = false := decide_eq_false (by omega)
          have HY2 := Lib.hid hy
          clear hy
          go_upto_region 22 with (fail)
          have E9 : Hid (Env D w tg [.rw (.slice (some ⟨vg, 0, none⟩) n n) n 1 (ncl (kerV q n P M f P.length)), .gn (gRows hs O), .rw (.slice (some ⟨xg, 0, none⟩) n n) n 1 (ncl (partV n P M P.length)), .ce xab (xao) (.slice ua L[0].length uk), .rw (.slice ua L[0].length uk) L[0].length 1 (ncl L[0]), .rw (.slice pa P.length pk) P.length 1 (ncl P), .mx (.slice ea M.length ek) (M.map nl), .rw (.slice ya b.length yk) b.length 1 (ncl b), .mx (.slice (some ⟨xab, xao, none⟩) L.length xk) (L.map nl)] _) := Lib.hid (by have h := EL.out; rw [HY2.out] at h; exact Env.freezeNn _ h (kerV_len _) (by omega))
          obtain ⟨kv, hkv⟩ : ∃ v, kerV q n P M f P.length = v := ⟨_, rfl⟩
          have HKV := Lib.hid hkv
          have HKL : Hid (kv.length = n) := Lib.hid (by rw [← hkv]; exact kerV_len _)
          clear hkv
          have E10 : Hid (Env D w tg [.rw (.slice (some ⟨vg, 0, none⟩) kv.length n) kv.length 1 (ncl kv), .gn (gRows hs O), .rw (.slice (some ⟨xg, 0, none⟩) n n) n 1 (ncl (partV n P M P.length)), .ce xab (xao) (.slice ua L[0].length uk), .rw (.slice ua L[0].length uk) L[0].length 1 (ncl L[0]), .rw (.slice pa P.length pk) P.length 1 (ncl P), .mx (.slice ea M.length ek) (M.map nl), .rw (.slice ya b.length yk) b.length 1 (ncl b), .mx (.slice (some ⟨xab, xao, none⟩) L.length xk) (L.map nl)] _) := Lib.hid (by rw [HKL.out]; have h := E9.out; rw [HKV.out] at h; exact h)
          have E11 : Hid (Env D w ((wr.heap.size, 22, [.slice (some ⟨vg, 0, none⟩) n n]) :: tg) [.rw (.slice (some ⟨vg, 0, none⟩) kv.length n) kv.length 1 (ncl kv), .gn (gRows hs O), .rw (.slice (some ⟨xg, 0, none⟩) n n) n 1 (ncl (partV n P M P.length)), .ce xab (xao) (.slice ua L[0].length uk), .rw (.slice ua L[0].length uk) L[0].length 1 (ncl L[0]), .rw (.slice pa P.length pk) P.length 1 (ncl P), .mx (.slice ea M.length ek) (M.map nl), .rw (.slice ya b.length yk) b.length 1 (ncl b), .mx (.slice (some ⟨xab, xao, none⟩) L.length xk) (L.map nl)] _) := Lib.hid ((E10.out.push 22 [.slice (some ⟨vg, 0, none⟩) n n] (wr.heap.size) (by simp)))
          go_wp2_with (at_builtin; refine wpl_app1 (c := 1) tiR rfl _ _ rfl E11.out (A := [(wr.heap.size, 22, [.slice (some ⟨vg, 0, none⟩) n n])]) (sg := tg) (B' := []) (by simp) hM.out.1 rfl rfl (SrcN.one (E11.out.bx 0 rfl) rfl) (by omega) ?_)
          intro yg yp yc w5 yH yT yE
          have yM := Lib.hid (OM.app (x := Value.slice (some ⟨vg, 0, none⟩) n n) (g' := yg) hM.out (by simpa using yH.out) (by simpa using yT.out))
          have E12 : Hid (Env D w ((wr.heap.size, 22, [.slice (some ⟨vg, 0, none⟩) n n]) :: [(yg, 22, yc)]) [.gn (gRows (hs ++ [Value.slice (some ⟨vg, 0, none⟩) n n]) (O ++ [kv])), .rw (.slice (some ⟨vg, 0, none⟩) kv.length n) kv.length 1 (ncl kv), .gn (gRows hs O), .rw (.slice (some ⟨xg, 0, none⟩) n n) n 1 (ncl (partV n P M P.length)), .ce xab (xao) (.slice ua L[0].length uk), .rw (.slice ua L[0].length uk) L[0].length 1 (ncl L[0]), .rw (.slice pa P.length pk) P.length 1 (ncl P), .mx (.slice ea M.length ek) (M.map nl), .rw (.slice ya b.length yk) b.length 1 (ncl b), .mx (.slice (some ⟨xab, xao, none⟩) L.length xk) (L.map nl)] w5) := Lib.hid ((yE.out.note (.gn (gRows (hs ++ [Value.slice (some ⟨vg, 0, none⟩) n n]) (O ++ [kv]))) (by have h := gRows.app (yE.out.fc 1 rfl) (yE.out.fc 0 rfl); rw [HKL.out] at h; exact h)).cast (by first | rfl | simp))
          clear EL E9 E10 E11 yE yH yT
          have hZ := E12.out.drop
          have EZ : Hid (Env D w _ [.gn (gRows (hs ++ [Value.slice (some ⟨vg, 0, none⟩) n n]) (O ++ [kv])), .rw (.slice (some ⟨xg, 0, none⟩) n n) n 1 (ncl (partV n P M P.length)), .ce xab (xao) (.slice ua L[0].length uk), .rw (.slice ua L[0].length uk) L[0].length 1 (ncl L[0]), .rw (.slice pa P.length pk) P.length 1 (ncl P), .mx (.slice ea M.length ek) (M.map nl), .rw (.slice ya b.length yk) b.length 1 (ncl b), .mx (.slice (some ⟨xab, xao, none⟩) L.length xk) (L.map nl)] _) := Lib.hid ⟨hZ.bel, hZ.box, ⟨hZ.fc 0 rfl, ⟨hZ.fc 3 rfl, ⟨hZ.fc 4 rfl, ⟨hZ.fc 5 rfl, ⟨hZ.fc 6 rfl, ⟨hZ.fc 7 rfl, ⟨hZ.fc 8 rfl, ⟨hZ.fc 9 rfl, trivial⟩⟩⟩⟩⟩⟩⟩⟩⟩
          clear hZ
          go_wp2
          go_roundg (n - (f + 1))
          case rel => exact ⟨f + 1, [(yg, 22, yc)], yc, some ⟨yg, 0, none⟩, yp, _, O ++ [kv], rfl, by simp, Lib.hid (EZ.out.cast (by simp)), Lib.hid (by rw [List.length_append, List.length_singleton]; exact yM.out), Lib.hid ⟨⟨by omega, rfl⟩, by rw [kerL_add HPC.out, HPO.out, HKV.out]⟩⟩
          case measure => exact by omega
end Go.Proofs.YtinlfogpbologaaDoor

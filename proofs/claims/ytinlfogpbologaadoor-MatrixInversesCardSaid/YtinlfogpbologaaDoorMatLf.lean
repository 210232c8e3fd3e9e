/- matrix: the law MatrixInverses. -/
import Derived.Test.YtinlfogpbologaaDoorMatLw
import Derived.Test.YtinlfogpbologaaDoorMatZ
import Derived.Test.YtinlfogpbologaaDoorMatR
namespace Go.Proofs.YtinlfogpbologaaDoor
open Go.RowKit DivMath WordMath
set_option linter.unusedVariables false
set_option linter.unusedSimpArgs false
section
variable {D : Nat → Prop} {q : Nat} {L M : List (List Nat)} {P : List Nat} {xa : Option Addr} {xk : Nat} {w : World}
theorem rInverse_t (hx : Fct.at w D (.mx (.slice xa L.length xk) (L.map nl))) (hv : MvI q L.length L) (hR : redN q (invL L) L.length = (M, P)) (ht : P.length < L.length) :
    Calls Tryd.prog 40 #[.int .i64 (q : Nat), .slice xa L.length xk] w fun e w' => e = .returned (.tuple #[.slice none 0 0, .bool false]) ∧ Below w.heap.size w w' := by
  refine (rInverse_c q L M P hx hv hR).mono fun e w' h => ⟨?_, h.2⟩
  rcases h.1 with ⟨_, h⟩ | ⟨h, _⟩
  · exact h
  · exact absurd ht h
theorem rInverse_f (hx : Fct.at w D (.mx (.slice xa L.length xk) (L.map nl))) (hv : MvI q L.length L) (hR : redN q (invL L) L.length = (M, P)) (ht : ¬ P.length < L.length) :
    Calls Tryd.prog 40 #[.int .i64 (q : Nat), .slice xa L.length xk] w fun e w' => (∃ ka kk, e = .returned (.tuple #[.slice ka (M.map (List.drop L.length)).length kk, .bool true]) ∧ Hid (Mx w' (fun b => D b ∨ w.heap.size ≤ b) (.slice ka (M.map (List.drop L.length)).length kk) ((M.map (List.drop L.length)).map nl))) ∧ Below w.heap.size w w' := by
  refine (rInverse_c q L M P hx hv hR).mono fun e w' h => ⟨?_, h.2⟩
  rcases h.1 with ⟨h, _⟩ | ⟨_, h⟩
  · exact absurd h ht
  · exact h
theorem Inverse_fx {X : List (List Nat)} (hx : Fct.at w D (.mx (.slice xa L.length xk) (L.map nl))) (hl : Laid w) (hv : MvI q L.length L) (hR : redN q (invL L) L.length = (M, P)) (ht : ¬ P.length < L.length) (hX : M.map (List.drop L.length) = X) :
    Calls Tryd.prog 39 #[.int .i64 (q : Nat), .slice xa L.length xk] w fun e w' => RetMfE (fun b => D b ∨ w.heap.size ≤ b) X 0 e w' ∧ Below w.heap.size w w' := by
  subst hX; exact Inverse_f q L M P hx hl hv hR ht
theorem rInverse_fx {X : List (List Nat)} (hx : Fct.at w D (.mx (.slice xa L.length xk) (L.map nl))) (hv : MvI q L.length L) (hR : redN q (invL L) L.length = (M, P)) (ht : ¬ P.length < L.length) (hX : M.map (List.drop L.length) = X) :
    Calls Tryd.prog 40 #[.int .i64 (q : Nat), .slice xa L.length xk] w fun e w' => (∃ ka kk, e = .returned (.tuple #[.slice ka X.length kk, .bool true]) ∧ Hid (Mx w' (fun b => D b ∨ w.heap.size ≤ b) (.slice ka X.length kk) (X.map nl))) ∧ Below w.heap.size w w' := by
  subst hX; exact rInverse_f hx hv hR ht
theorem inv_len (hv : MvI q L.length L) (hR : redN q (invL L) L.length = (M, P)) : (M.map (List.drop L.length)).length ≤ 1000 ∧ ∀ r ∈ M.map (List.drop L.length), r.length ≤ 1000 := by
  have h := redN_ok (n := L.length + L.length) (by have := hv.q2; omega : 0 < q) (invL_res hv.q2 hv.res) L.length
  rw [hR] at h
  have h1 := h.len
  rw [invL_len] at h1
  have h2 := hv.m30
  simp only at h1
  refine ⟨by rw [List.length_map]; omega, fun r hr => ?_⟩
  obtain ⟨s, hs, rfl⟩ := List.mem_map.1 hr
  have := (h.res s hs).1
  rw [List.length_drop]; omega
end
set_option maxRecDepth 100000 in
set_option maxHeartbeats 8000000 in
theorem mi_a {D : Nat → Prop} (q : Int) (M : List (List Int)) {xa : Option Addr} {xk : Nat} {w : World} (hx : Fct.at w D (.mx (.slice xa M.length xk) M)) (hl0 : Laid w) (HG0 : [M].any (fun x => grM x) = true)  :
    Calls Tryd.prog 7 #[.int .i64 q, .slice xa M.length xk] w fun e w' => e = .returned (.bool true) ∧ Below w.heap.size w w' := by
  have E0 : Hid (Env D w [] [.mx (.slice xa M.length xk) M] w) := Lib.hid ((Env.start D w).arg (.mx (.slice xa M.length xk) M) hx)
  clear hx
  go_enter Tryd.func7, Tryd.ntmps7
  have hl := Lib.hid hl0
  have HG := Lib.hid HG0
  clear hl0 HG0
  go_wp2_with fail
  refine (awake14_c (hl.out.below E0.out.bel)).mono ?_
  rintro e w1 ⟨rfl, hb⟩
  have E1 : Hid (Env D w [] [.mx (.slice xa M.length xk) M] w1) := Lib.hid (E0.out.below hb)
  clear E0 hb
  have E2 : Hid (Env D w [(w1.heap.size, 40, [.slice xa M.length xk])] [.mx (.slice xa M.length xk) M] _) := Lib.hid ((E1.out.push 40 [.slice xa M.length xk] (w1.heap.size) (by simp)))
  go_wp2_with fail
  refine (great14_c (t := true) [M] (xb := w1.heap.size) (xo := 0) (xk := 1) (gMats.one (by simp) (E2.out.bx 0 rfl) (E2.out.fc 0 rfl)) HG.out (by simp)).mono ?_
  rintro e w2 ⟨rfl, hb⟩
  have E3 : Hid (Env D w [(w1.heap.size, 40, [.slice xa M.length xk])] [.mx (.slice xa M.length xk) M] w2) := Lib.hid (E2.out.below hb)
  clear E1 E2 hb
  have hfin := Lib.hid E3.out.bel
  go_wp2
  go_ret
  exact ⟨rfl, hfin.out⟩
set_option maxRecDepth 100000 in
set_option maxHeartbeats 8000000 in
theorem mi_b {D : Nat → Prop} (q : Int) (M : List (List Int)) {xa : Option Addr} {xk : Nat} {w : World} (hx : Fct.at w D (.mx (.slice xa M.length xk) M)) (hl0 : Laid w) (HG0 : [M].any (fun x => grM x) = false) (hn : -9223372036854775808 ≤ q ∧ q ≤ 9223372036854775807) (hv0 : mvB q M = false) :
    Calls Tryd.prog 7 #[.int .i64 q, .slice xa M.length xk] w fun e w' => e = .returned (.bool true) ∧ Below w.heap.size w w' := by
  have E0 : Hid (Env D w [] [.mx (.slice xa M.length xk) M] w) := Lib.hid ((Env.start D w).arg (.mx (.slice xa M.length xk) M) hx)
  clear hx
  go_enter Tryd.func7, Tryd.ntmps7
  have hl := Lib.hid hl0
  have HG := Lib.hid HG0
  have hv := Lib.hid hv0
  clear hl0 HG0 hv0
  go_wp2_with fail
  refine (awake14_c (hl.out.below E0.out.bel)).mono ?_
  rintro e w1 ⟨rfl, hb⟩
  have E1 : Hid (Env D w [] [.mx (.slice xa M.length xk) M] w1) := Lib.hid (E0.out.below hb)
  clear E0 hb
  have E2 : Hid (Env D w [(w1.heap.size, 40, [.slice xa M.length xk])] [.mx (.slice xa M.length xk) M] _) := Lib.hid ((E1.out.push 40 [.slice xa M.length xk] (w1.heap.size) (by simp)))
  go_wp2_with fail
  refine (great14_c (t := false) [M] (xb := w1.heap.size) (xo := 0) (xk := 1) (gMats.one (by simp) (E2.out.bx 0 rfl) (E2.out.fc 0 rfl)) HG.out (by simp)).mono ?_
  rintro e w2 ⟨rfl, hb⟩
  have E3 : Hid (Env D w [(w1.heap.size, 40, [.slice xa M.length xk])] [.mx (.slice xa M.length xk) M] w2) := Lib.hid (E2.out.below hb)
  clear E1 E2 hb
  go_wp2_with fail
  refine (Inverse_no q M (E3.out.fc 0 rfl) (hl.out.below E3.out.bel) hn hv.out).mono ?_
  rintro e w3 ⟨rfl, hb⟩
  have E4 : Hid (Env D w [(w1.heap.size, 40, [.slice xa M.length xk])] [.mx (.slice xa M.length xk) M] w3) := Lib.hid (E3.out.below hb)
  clear E3 hb
  go_wp2_with fail
  refine (rMValid_c q M (E4.out.fc 0 rfl) hn.1 hv.out).mono ?_
  rintro e w4 ⟨rfl, hb⟩
  have E5 : Hid (Env D w [(w1.heap.size, 40, [.slice xa M.length xk])] [.mx (.slice xa M.length xk) M] w4) := Lib.hid (E4.out.below hb)
  clear E4 hb
  have hfin := Lib.hid E5.out.bel
  go_wp2
  go_ret
  exact ⟨rfl, hfin.out⟩
set_option maxRecDepth 100000 in
set_option maxHeartbeats 8000000 in
theorem mi_c {D : Nat → Prop} (q n : Nat) (L : List (List Nat)) {xa : Option Addr} {xk : Nat} {w : World} (hx : Fct.at w D (.mx (.slice xa L.length xk) (L.map nl))) (hl0 : Laid w) (HG0 : [L.map nl].any (fun x => grM x) = false) (hv0 : MvI q n L) (hs0 : ¬ L.length = n) :
    Calls Tryd.prog 7 #[.int .i64 (q : Nat), .slice xa L.length xk] w fun e w' => e = .returned (.bool true) ∧ Below w.heap.size w w' := by
  have E0 : Hid (Env D w [] [.mx (.slice xa L.length xk) (L.map nl)] w) := Lib.hid ((Env.start D w).arg (.mx (.slice xa L.length xk) (L.map nl)) hx)
  clear hx
  go_enter Tryd.func7, Tryd.ntmps7
  have hl := Lib.hid hl0
  have HG := Lib.hid HG0
  have hv := Lib.hid hv0
  have hs := Lib.hid hs0
  clear hl0 HG0 hv0 hs0
  go_wp2_with fail
  refine (awake14_c (hl.out.below E0.out.bel)).mono ?_
  rintro e w1 ⟨rfl, hb⟩
  have E1 : Hid (Env D w [] [.mx (.slice xa L.length xk) (L.map nl)] w1) := Lib.hid (E0.out.below hb)
  clear E0 hb
  have E2 : Hid (Env D w [(w1.heap.size, 40, [.slice xa L.length xk])] [.mx (.slice xa L.length xk) (L.map nl)] _) := Lib.hid ((E1.out.push 40 [.slice xa L.length xk] (w1.heap.size) (by simp)))
  go_wp2_with fail
  refine (great14_c (t := false) [L.map nl] (xb := w1.heap.size) (xo := 0) (xk := 1) (gMats.one (by simp) (E2.out.bx 0 rfl) (E2.out.fc 0 rfl)) HG.out (by simp)).mono ?_
  rintro e w2 ⟨rfl, hb⟩
  have E3 : Hid (Env D w [(w1.heap.size, 40, [.slice xa L.length xk])] [.mx (.slice xa L.length xk) (L.map nl)] w2) := Lib.hid (E2.out.below hb)
  clear E1 E2 hb
  go_wp2_with fail
  refine (Inverse_sq q n L (E3.out.fc 0 rfl) (hl.out.below E3.out.bel) hv.out hs.out).mono ?_
  rintro e w3 ⟨rfl, hb⟩
  have E4 : Hid (Env D w [(w1.heap.size, 40, [.slice xa L.length xk])] [.mx (.slice xa L.length xk) (L.map nl)] w3) := Lib.hid (E3.out.below hb)
  clear E3 hb
  have hz : 0 < L.length := hv.out.m1
  have hzI : (0 : Int) < (L.length : Int) := by omega
  have HL0 : Hid (L[0].length = n) := Lib.hid (hv.out.res _ (List.getElem_mem hz)).1
  have n1 : ((L.length : Int) != (L[0].length : Int)) = true := by have h1 := HL0.out; have h2 := hs.out; rw [bne_iff_ne]; omega
  have n2 : (L.length != L[0].length) = true := by have h1 := HL0.out; have h2 := hs.out; rw [bne_iff_ne]; omega
  go_upto_region 6 with (fail)
  obtain ⟨xab, xao, rfl⟩ := Mx.addrN (E4.out.fc 0 rfl) hz
  obtain ⟨ua, uk, E50⟩ := E4.out.elMN 0 rfl (0) hz
  have E5 : Hid (Env D w [(w1.heap.size, 40, [.slice (some ⟨xab, xao, none⟩) L.length xk])] [.ce xab (xao) (.slice ua L[0].length uk), .rw (.slice ua L[0].length uk) L[0].length 1 (ncl L[0]), .mx (.slice (some ⟨xab, xao, none⟩) L.length xk) (L.map nl)] _) := Lib.hid E50
  clear E50 E4
  have u0 := (E5.out.fc 0 rfl).2
  go_wp2_with fail
  refine (rMValidN (E5.out.fc 2 rfl) hv.out).mono ?_
  rintro e w4 ⟨rfl, hb⟩
  have E6 : Hid (Env D w [(w1.heap.size, 40, [.slice (some ⟨xab, xao, none⟩) L.length xk])] [.ce xab (xao) (.slice ua L[0].length uk), .rw (.slice ua L[0].length uk) L[0].length 1 (ncl L[0]), .mx (.slice (some ⟨xab, xao, none⟩) L.length xk) (L.map nl)] w4) := Lib.hid (E5.out.below hb)
  clear u0 E5 hb
  have z1 := (E6.out.fc 0 rfl).2
  have hfin := Lib.hid E6.out.bel
  go_wp2
  go_ret
  exact ⟨rfl, hfin.out⟩
set_option maxRecDepth 100000 in
set_option maxHeartbeats 8000000 in
theorem mi_d {D : Nat → Prop} (q : Nat) (L M : List (List Nat)) (P : List Nat) {xa : Option Addr} {xk : Nat} {w : World} (hx : Fct.at w D (.mx (.slice xa L.length xk) (L.map nl))) (hl0 : Laid w) (HG0 : [L.map nl].any (fun x => grM x) = false) (hv0 : MvI q L.length L) (hR0 : redN q (invL L) L.length = (M, P)) (ht0 : P.length < L.length) :
    Calls Tryd.prog 7 #[.int .i64 (q : Nat), .slice xa L.length xk] w fun e w' => e = .returned (.bool true) ∧ Below w.heap.size w w' := by
  have E0 : Hid (Env D w [] [.mx (.slice xa L.length xk) (L.map nl)] w) := Lib.hid ((Env.start D w).arg (.mx (.slice xa L.length xk) (L.map nl)) hx)
  clear hx
  go_enter Tryd.func7, Tryd.ntmps7
  have hl := Lib.hid hl0
  have HG := Lib.hid HG0
  have hv := Lib.hid hv0
  have hR := Lib.hid hR0
  have ht := Lib.hid ht0
  clear hl0 HG0 hv0 hR0 ht0
  go_wp2_with fail
  refine (awake14_c (hl.out.below E0.out.bel)).mono ?_
  rintro e w1 ⟨rfl, hb⟩
  have E1 : Hid (Env D w [] [.mx (.slice xa L.length xk) (L.map nl)] w1) := Lib.hid (E0.out.below hb)
  clear E0 hb
  have E2 : Hid (Env D w [(w1.heap.size, 40, [.slice xa L.length xk])] [.mx (.slice xa L.length xk) (L.map nl)] _) := Lib.hid ((E1.out.push 40 [.slice xa L.length xk] (w1.heap.size) (by simp)))
  go_wp2_with fail
  refine (great14_c (t := false) [L.map nl] (xb := w1.heap.size) (xo := 0) (xk := 1) (gMats.one (by simp) (E2.out.bx 0 rfl) (E2.out.fc 0 rfl)) HG.out (by simp)).mono ?_
  rintro e w2 ⟨rfl, hb⟩
  have E3 : Hid (Env D w [(w1.heap.size, 40, [.slice xa L.length xk])] [.mx (.slice xa L.length xk) (L.map nl)] w2) := Lib.hid (E2.out.below hb)
  clear E1 E2 hb
  go_wp2_with fail
  refine (Inverse_t q L M P (E3.out.fc 0 rfl) (hl.out.below E3.out.bel) hv.out hR.out ht.out).mono ?_
  rintro e w3 ⟨rfl, hb⟩
  have E4 : Hid (Env D w [(w1.heap.size, 40, [.slice xa L.length xk])] [.mx (.slice xa L.length xk) (L.map nl)] w3) := Lib.hid (E3.out.below hb)
  clear E3 hb
  have hz : 0 < L.length := hv.out.m1
  have hzI : (0 : Int) < (L.length : Int) := by omega
  have HL0 : Hid (L[0].length = L.length) := Lib.hid (hv.out.res _ (List.getElem_mem hz)).1
  have n1 : ((L.length : Int) != (L[0].length : Int)) = false := by have h1 := HL0.out; rw [h1]; simp
  have n2 : (L.length != L[0].length) = false := by have h1 := HL0.out; rw [h1]; simp
  go_upto_region 6 with (fail)
  obtain ⟨xab, xao, rfl⟩ := Mx.addrN (E4.out.fc 0 rfl) hz
  obtain ⟨ua, uk, E50⟩ := E4.out.elMN 0 rfl (0) hz
  have E5 : Hid (Env D w [(w1.heap.size, 40, [.slice (some ⟨xab, xao, none⟩) L.length xk])] [.ce xab (xao) (.slice ua L[0].length uk), .rw (.slice ua L[0].length uk) L[0].length 1 (ncl L[0]), .mx (.slice (some ⟨xab, xao, none⟩) L.length xk) (L.map nl)] _) := Lib.hid E50
  clear E50 E4
  have u0 := (E5.out.fc 0 rfl).2
  go_wp2_with fail
  refine (rMValidN (E5.out.fc 2 rfl) hv.out).mono ?_
  rintro e w4 ⟨rfl, hb⟩
  have E6 : Hid (Env D w [(w1.heap.size, 40, [.slice (some ⟨xab, xao, none⟩) L.length xk])] [.ce xab (xao) (.slice ua L[0].length uk), .rw (.slice ua L[0].length uk) L[0].length 1 (ncl L[0]), .mx (.slice (some ⟨xab, xao, none⟩) L.length xk) (L.map nl)] w4) := Lib.hid (E5.out.below hb)
  clear u0 E5 hb
  have z1 := (E6.out.fc 0 rfl).2
  go_wp2_with fail
  refine (rInverse_t (E6.out.fc 2 rfl) hv.out hR.out ht.out).mono ?_
  rintro e w5 ⟨rfl, hb⟩
  have E7 : Hid (Env D w [(w1.heap.size, 40, [.slice (some ⟨xab, xao, none⟩) L.length xk])] [.ce xab (xao) (.slice ua L[0].length uk), .rw (.slice ua L[0].length uk) L[0].length 1 (ncl L[0]), .mx (.slice (some ⟨xab, xao, none⟩) L.length xk) (L.map nl)] w5) := Lib.hid (E6.out.below hb)
  clear z1 E6 hb
  have hfin := Lib.hid E7.out.bel
  go_wp2
  go_ret
  exact ⟨rfl, hfin.out⟩
set_option maxRecDepth 100000 in
set_option maxHeartbeats 8000000 in
theorem mi_e {D : Nat → Prop} (q : Nat) (L M : List (List Nat)) (P : List Nat) (X : List (List Nat)) {xa : Option Addr} {xk : Nat} {w : World} (hx : Fct.at w D (.mx (.slice xa L.length xk) (L.map nl))) (hl0 : Laid w) (HG0 : [L.map nl].any (fun x => grM x) = false) (hv0 : MvI q L.length L) (hR0 : redN q (invL L) L.length = (M, P)) (ht0 : ¬ P.length < L.length) (hX0 : M.map (List.drop L.length) = X) :
    Calls Tryd.prog 7 #[.int .i64 (q : Nat), .slice xa L.length xk] w fun e w' => e = .returned (.bool true) ∧ Below w.heap.size w w' := by
  have E0 : Hid (Env D w [] [.mx (.slice xa L.length xk) (L.map nl)] w) := Lib.hid ((Env.start D w).arg (.mx (.slice xa L.length xk) (L.map nl)) hx)
  clear hx
  go_enter Tryd.func7, Tryd.ntmps7
  have hl := Lib.hid hl0
  have HG := Lib.hid HG0
  have hv := Lib.hid hv0
  have hR := Lib.hid hR0
  have ht := Lib.hid ht0
  have hX := Lib.hid hX0
  clear hl0 HG0 hv0 hR0 ht0 hX0
  go_wp2_with fail
  refine (awake14_c (hl.out.below E0.out.bel)).mono ?_
  rintro e w1 ⟨rfl, hb⟩
  have E1 : Hid (Env D w [] [.mx (.slice xa L.length xk) (L.map nl)] w1) := Lib.hid (E0.out.below hb)
  clear E0 hb
  have HX := Lib.hid (inv_len hv.out hR.out)
  rw [hX.out] at HX
  have E2 : Hid (Env D w [(w1.heap.size, 40, [.slice xa L.length xk])] [.mx (.slice xa L.length xk) (L.map nl)] _) := Lib.hid ((E1.out.push 40 [.slice xa L.length xk] (w1.heap.size) (by simp)))
  go_wp2_with fail
  refine (great14_c (t := false) [L.map nl] (xb := w1.heap.size) (xo := 0) (xk := 1) (gMats.one (by simp) (E2.out.bx 0 rfl) (E2.out.fc 0 rfl)) HG.out (by simp)).mono ?_
  rintro e w2 ⟨rfl, hb⟩
  have E3 : Hid (Env D w [(w1.heap.size, 40, [.slice xa L.length xk])] [.mx (.slice xa L.length xk) (L.map nl)] w2) := Lib.hid (E2.out.below hb)
  clear E1 E2 hb
  go_wp2_with fail
  refine (Inverse_fx (E3.out.fc 0 rfl) (hl.out.below E3.out.bel) hv.out hR.out ht.out hX.out).mono ?_
  rintro e w3 ⟨⟨ca, ck, rfl, ch⟩, hb⟩
  have E4 : Hid (Env D w [(w1.heap.size, 40, [.slice xa L.length xk])] [.mx (.slice ca X.length ck) (X.map nl), .mx (.slice xa L.length xk) (L.map nl)] w3) := Lib.hid (E3.out.got (E3.out.below hb) (.mx (.slice ca X.length ck) (X.map nl)) ch.out)
  clear E3 hb ch
  have hz : 0 < L.length := hv.out.m1
  have hzI : (0 : Int) < (L.length : Int) := by omega
  have HL0 : Hid (L[0].length = L.length) := Lib.hid (hv.out.res _ (List.getElem_mem hz)).1
  have n1 : ((L.length : Int) != (L[0].length : Int)) = false := by have h1 := HL0.out; rw [h1]; simp
  have n2 : (L.length != L[0].length) = false := by have h1 := HL0.out; rw [h1]; simp
  go_upto_region 6 with (fail)
  obtain ⟨xab, xao, rfl⟩ := Mx.addrN (E4.out.fc 1 rfl) hz
  obtain ⟨ua, uk, E50⟩ := E4.out.elMN 1 rfl (0) hz
  have E5 : Hid (Env D w [(w1.heap.size, 40, [.slice (some ⟨xab, xao, none⟩) L.length xk])] [.ce xab (xao) (.slice ua L[0].length uk), .rw (.slice ua L[0].length uk) L[0].length 1 (ncl L[0]), .mx (.slice ca X.length ck) (X.map nl), .mx (.slice (some ⟨xab, xao, none⟩) L.length xk) (L.map nl)] _) := Lib.hid E50
  clear E50 E4
  have u0 := (E5.out.fc 0 rfl).2
  go_wp2_with fail
  refine (rMValidN (E5.out.fc 3 rfl) hv.out).mono ?_
  rintro e w4 ⟨rfl, hb⟩
  have E6 : Hid (Env D w [(w1.heap.size, 40, [.slice (some ⟨xab, xao, none⟩) L.length xk])] [.ce xab (xao) (.slice ua L[0].length uk), .rw (.slice ua L[0].length uk) L[0].length 1 (ncl L[0]), .mx (.slice ca X.length ck) (X.map nl), .mx (.slice (some ⟨xab, xao, none⟩) L.length xk) (L.map nl)] w4) := Lib.hid (E5.out.below hb)
  clear u0 E5 hb
  have z1 := (E6.out.fc 0 rfl).2
  go_wp2_with fail
  refine (rInverse_fx (E6.out.fc 3 rfl) hv.out hR.out ht.out hX.out).mono ?_
  rintro e w5 ⟨⟨da, dk, rfl, dh⟩, hb⟩
  have E7 : Hid (Env D w [(w1.heap.size, 40, [.slice (some ⟨xab, xao, none⟩) L.length xk])] [.mx (.slice da X.length dk) (X.map nl), .ce xab (xao) (.slice ua L[0].length uk), .rw (.slice ua L[0].length uk) L[0].length 1 (ncl L[0]), .mx (.slice ca X.length ck) (X.map nl), .mx (.slice (some ⟨xab, xao, none⟩) L.length xk) (L.map nl)] w5) := Lib.hid (E6.out.got (E6.out.below hb) (.mx (.slice da X.length dk) (X.map nl)) dh.out)
  clear z1 E6 hb dh
  go_wp2_with fail
  refine (rSameN (L := X) (E7.out.fc 3 rfl) (E7.out.fc 0 rfl) HX.out.1 HX.out.2).mono ?_
  rintro e w6 ⟨rfl, hb⟩
  have E8 : Hid (Env D w [(w1.heap.size, 40, [.slice (some ⟨xab, xao, none⟩) L.length xk])] [.mx (.slice da X.length dk) (X.map nl), .ce xab (xao) (.slice ua L[0].length uk), .rw (.slice ua L[0].length uk) L[0].length 1 (ncl L[0]), .mx (.slice ca X.length ck) (X.map nl), .mx (.slice (some ⟨xab, xao, none⟩) L.length xk) (L.map nl)] w6) := Lib.hid (E7.out.below hb)
  clear E7 hb
  have hfin := Lib.hid E8.out.bel
  go_wp2
  go_ret
  exact ⟨rfl, hfin.out⟩
theorem MatrixInverses_walk {D : Nat → Prop} (q : Int) (M : List (List Int)) {xa : Option Addr} {xk : Nat} {w : World} (hx : Fct.at w D (.mx (.slice xa M.length xk) M)) (hl : Laid w) (hn : -9223372036854775808 ≤ q ∧ q ≤ 9223372036854775807) :
    Calls Tryd.prog 7 #[.int .i64 q, .slice xa M.length xk] w fun e w' => e = .returned (.bool true) ∧ Below w.heap.size w w' := by
  cases hg : [M].any (fun x => grM x) with
  | true => exact mi_a q M hx hl hg
  | false =>
    cases hv : mvB q M with
    | false => exact mi_b q M hx hl hg hn hv
    | true =>
      obtain ⟨p, n, L, rfl, rfl, hL, _⟩ := mv_nat hv
      rw [List.length_map] at hx ⊢
      by_cases hs : L.length = n
      · subst hs
        obtain ⟨R, P, hRP⟩ : ∃ R P, redN p (invL L) L.length = (R, P) := ⟨_, _, rfl⟩
        by_cases ht : P.length < L.length
        · exact mi_d p L R P hx hl hg hL hRP ht
        · exact mi_e p L R P _ hx hl hg hL hRP ht rfl
      · exact mi_c p n L hx hl hg hL hs
end Go.Proofs.YtinlfogpbologaaDoor

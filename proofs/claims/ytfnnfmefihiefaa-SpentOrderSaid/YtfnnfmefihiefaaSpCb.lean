/- what is dropped. -/
import Derived.Test.YtfnnfmefihiefaaSpCa
import Derived.Test.YtfnnfmefihiefaaSpWa
namespace Go.Proofs.Ytfnnfmefihiefaa
open Go.RowKit
set_option linter.unusedVariables false
set_option linter.unusedSimpArgs false
/-- what stays -/
def keepN (L : List Us) (l : List (List Value)) (now : Int) : List Us := L.filter (fun u => !expT l u.sp.cn now)
theorem keepN_take {L : List Us} {l : List (List Value)} {now : Int} {k : Nat} {u : Us} (h : L[k]? = some u) : keepN (L.take (k + 1)) l now = if expT l u.sp.cn now = true then keepN (L.take k) l now else keepN (L.take k) l now ++ [u] := by
  unfold keepN
  rw [List.take_add_one, h, List.filter_append]
  cases e : expT l u.sp.cn now <;> simp [e]
theorem keepN_len (L : List Us) (l : List (List Value)) (now : Int) : (keepN L l now).length ≤ L.length := List.length_filter_le _ _
open Classical in
noncomputable def dropRes (L : List Us) (l : List (List Value)) (now : Int) : List Us × Int × Int :=
  if ¬ ValidT L ∨ 1000 < l.length then ([], 0, 1)
  else if now < 0 ∨ 1099511627776 < now then ([], 0, 2)
  else (keepN L l now, (L.length : Int) - ((keepN L l now).length : Int), 0)
theorem dropRes_bad {L : List Us} {l : List (List Value)} {now : Int} (h : ¬ ValidT L ∨ 1000 < l.length) : dropRes L l now = ([], 0, 1) := by unfold dropRes; rw [if_pos h]
theorem dropRes_range {L : List Us} {l : List (List Value)} {now : Int} (h : ValidT L) (h1 : ¬ 1000 < l.length) (h2 : now < 0 ∨ 1099511627776 < now) : dropRes L l now = ([], 0, 2) := by unfold dropRes; rw [if_neg (by simp only [not_or, Classical.not_not]; exact ⟨h, h1⟩), if_pos h2]
theorem dropRes_ok {L : List Us} {l : List (List Value)} {now : Int} (h : ValidT L) (h1 : ¬ 1000 < l.length) (h2 : ¬ (now < 0 ∨ 1099511627776 < now)) : dropRes L l now = (keepN L l now, (L.length : Int) - ((keepN L l now).length : Int), 0) := by unfold dropRes; rw [if_neg (by simp only [not_or, Classical.not_not]; exact ⟨h, h1⟩), if_neg h2]
/-- a table, a number, an error number -/
def RetTI (D : Nat → Prop) (L : List Us) (m n : Int) (e : Ending) (W : World) : Prop := ∃ va vk X, e = .returned (.tuple #[.agg #[.slice va X.length vk], .int .i64 m, .int .i64 n]) ∧ X.map Uv.u = L ∧ Hid ((gUl (.slice va X.length vk) X).at_ W D)
theorem RetTI.fail {D : Nat → Prop} {L : List Us} {m n n' : Int} {W : World} (h : L = [] ∧ m = 0 ∧ n = n') : RetTI D L m n (.returned (.tuple #[.agg #[.slice none 0 0], .int .i64 0, .int .i64 n'])) W := by
  obtain ⟨rfl, rfl, rfl⟩ := h
  exact ⟨none, 0, [], rfl, rfl, Lib.hid (gUl.nil _ _)⟩
set_option maxRecDepth 100000 in
set_option maxHeartbeats 8000000 in
theorem drop_c {D : Nat → Prop} (X : List Uv) (l : List (List Value)) (now : Int) {xa ra : Option Addr} {xk rk : Nat} {w : World} (hx : Fct.at w D (.gn (gUl (.slice xa X.length xk) X))) (hl : Fct.at w D (.rw (.slice ra l.length rk) l.length 11 l.flatten)) (hb0 : ∀ x ∈ X, x.u.sp.lv.length ≤ 1000000 ∧ x.u.sp.pa.length ≤ 1000000) (hok0 : ∀ c ∈ l, okc 116 c) (hm0 : X.length ≤ 100000) {L : List Us} {m n : Int} (hr0 : dropRes (X.map Uv.u) l now = (L, m, n)) :
    Calls Try.prog 31 #[.agg #[.slice xa X.length xk], .slice ra l.length rk, .int .i64 now] w fun e w' => RetTI (fun b => D b ∨ w.heap.size ≤ b) L m n e w' ∧ Below w.heap.size w w' := by
  have E0 : Hid (Env D w [] [.rw (.slice ra l.length rk) l.length 11 l.flatten, .gn (gUl (.slice xa X.length xk) X)] w) := Lib.hid (((Env.start D w).arg (.gn (gUl (.slice xa X.length xk) X)) hx).arg (.rw (.slice ra l.length rk) l.length 11 l.flatten) hl)
  clear hx hl
  go_enter Try.func31, Try.ntmps31
  have hb := Lib.hid hb0
  have hok := Lib.hid hok0
  have hm := Lib.hid hm0
  have hr := Lib.hid hr0
  clear hb0 hok0 hm0 hr0
  have HL : Hid ((X.map Uv.u).length = X.length) := Lib.hid (List.length_map ..)
  have hm9 := hm.out
  obtain ⟨v1, v1h⟩ : ∃ b : Bool, b = true ↔ ValidT (X.map Uv.u) := by by_cases h : ValidT (X.map Uv.u); (· exact ⟨true, ⟨fun _ => h, fun _ => rfl⟩⟩); exact ⟨false, ⟨fun h2 => Bool.noConfusion h2, fun h2 => absurd h2 h⟩⟩
  have v1H := Lib.hid v1h
  clear v1h
  cases v1 with
  | false =>
    go_wp2_with fail
    have E1 : Hid (Env D w [(w.heap.size + 1, 25, [.slice none 0 0]), (w.heap.size, 25, [.slice xa X.length xk])] [.rw (.slice ra l.length rk) l.length 11 l.flatten, .gn (gUl (.slice xa X.length xk) X)] _) := Lib.hid (((E0.out.push 25 [.slice xa X.length xk] (w.heap.size) (by simp)).push 25 [.slice none 0 0] (w.heap.size + 1) (by simp)))
    refine (valid_c X (E1.out.fc 1 rfl) hb.out (t := false) (by first | exact v1H.out | simpa using v1H.out) (by omega)).mono ?_
    rintro e w1 ⟨rfl, hb⟩
    have E2 : Hid (Env D w [(w.heap.size + 1, 25, [.slice none 0 0]), (w.heap.size, 25, [.slice xa X.length xk])] [.rw (.slice ra l.length rk) l.length 11 l.flatten, .gn (gUl (.slice xa X.length xk) X)] w1) := Lib.hid (E1.out.below hb)
    clear E0 E1 hb
    have b1 := E2.out.bx 0 rfl
    have c1_0 := b1.cell 0 rfl
    have f1_0 := b1.frozen 0
    clear b1
    have HR : Hid (L = [] ∧ m = 0 ∧ n = 1) := Lib.hid (by have h := hr.out; rw [dropRes_bad (.inl (by simpa using v1H.out))] at h; simpa [eq_comm] using h)
    go_wp2
    have E3 : Hid (Env D w [(w.heap.size + 1, 25, [.slice none 0 0]), (w.heap.size, 25, [.slice xa X.length xk])] [.rw (.slice ra l.length rk) l.length 11 l.flatten, .gn (gUl (.slice xa X.length xk) X)] _) := Lib.hid ((E2.out.set 0 0 (.slice none 0 0) rfl))
    have hfin := E3.out
    have q2 := (hfin.bx 0 rfl).cell 0 rfl
    exact bodyPost_ret (v := (.tuple #[.agg #[.slice none 0 0], .int .i64 0, .int .i64 1])) (by simp [results, Try.results31, go_sem, q2]) rfl ⟨RetTI.fail HR.out, hfin.bel⟩
  | true =>
    have HV : Hid (ValidT (X.map Uv.u)) := Lib.hid (v1H.out.1 (by simp))
    by_cases q1 : 1000 < l.length
    · have d1 : decide ((1000 : Int) < (l.length : Int)) = true := decide_eq_true (by omega)
      have d1b : decide (1000 < l.length) = true := decide_eq_true q1
      go_wp2_with fail
      have E1 : Hid (Env D w [(w.heap.size + 1, 25, [.slice none 0 0]), (w.heap.size, 25, [.slice xa X.length xk])] [.rw (.slice ra l.length rk) l.length 11 l.flatten, .gn (gUl (.slice xa X.length xk) X)] _) := Lib.hid (((E0.out.push 25 [.slice xa X.length xk] (w.heap.size) (by simp)).push 25 [.slice none 0 0] (w.heap.size + 1) (by simp)))
      refine (valid_c X (E1.out.fc 1 rfl) hb.out (t := true) (by first | exact v1H.out | simpa using v1H.out) (by omega)).mono ?_
      rintro e w1 ⟨rfl, hb⟩
      have E2 : Hid (Env D w [(w.heap.size + 1, 25, [.slice none 0 0]), (w.heap.size, 25, [.slice xa X.length xk])] [.rw (.slice ra l.length rk) l.length 11 l.flatten, .gn (gUl (.slice xa X.length xk) X)] w1) := Lib.hid (E1.out.below hb)
      clear E0 E1 hb
      have b1 := E2.out.bx 0 rfl
      have c1_0 := b1.cell 0 rfl
      have f1_0 := b1.frozen 0
      clear b1
      have HR : Hid (L = [] ∧ m = 0 ∧ n = 1) := Lib.hid (by have h := hr.out; rw [dropRes_bad (.inr q1)] at h; simpa [eq_comm] using h)
      go_wp2
      have E3 : Hid (Env D w [(w.heap.size + 1, 25, [.slice none 0 0]), (w.heap.size, 25, [.slice xa X.length xk])] [.rw (.slice ra l.length rk) l.length 11 l.flatten, .gn (gUl (.slice xa X.length xk) X)] _) := Lib.hid ((E2.out.set 0 0 (.slice none 0 0) rfl))
      have hfin := E3.out
      have q2 := (hfin.bx 0 rfl).cell 0 rfl
      exact bodyPost_ret (v := (.tuple #[.agg #[.slice none 0 0], .int .i64 0, .int .i64 1])) (by simp [results, Try.results31, go_sem, q2]) rfl ⟨RetTI.fail HR.out, hfin.bel⟩
    have d1 : decide ((1000 : Int) < (l.length : Int)) = false := decide_eq_false (by omega)
    have d1b : decide (1000 < l.length) = false := decide_eq_false q1
    have HQ1 := Lib.hid q1
    have hl9 : l.length ≤ 1000000 := by omega
    have HL9 := Lib.hid hl9
    clear q1 hl9
    go_wp2_with fail
    have E1 : Hid (Env D w [(w.heap.size + 1, 25, [.slice none 0 0]), (w.heap.size, 25, [.slice xa X.length xk])] [.rw (.slice ra l.length rk) l.length 11 l.flatten, .gn (gUl (.slice xa X.length xk) X)] _) := Lib.hid (((E0.out.push 25 [.slice xa X.length xk] (w.heap.size) (by simp)).push 25 [.slice none 0 0] (w.heap.size + 1) (by simp)))
    refine (valid_c X (E1.out.fc 1 rfl) hb.out (t := true) (by first | exact v1H.out | simpa using v1H.out) (by omega)).mono ?_
    rintro e w1 ⟨rfl, hb⟩
    have E2 : Hid (Env D w [(w.heap.size + 1, 25, [.slice none 0 0]), (w.heap.size, 25, [.slice xa X.length xk])] [.rw (.slice ra l.length rk) l.length 11 l.flatten, .gn (gUl (.slice xa X.length xk) X)] w1) := Lib.hid (E1.out.below hb)
    clear E0 E1 hb
    by_cases q2 : now < 0
    · have d2 : decide (now < 0) = true := decide_eq_true q2
      have b1 := E2.out.bx 0 rfl
      have c1_0 := b1.cell 0 rfl
      have f1_0 := b1.frozen 0
      clear b1
      have HR : Hid (L = [] ∧ m = 0 ∧ n = 2) := Lib.hid (by have h := hr.out; rw [dropRes_range HV.out HQ1.out (.inl q2)] at h; simpa [eq_comm] using h)
      go_wp2
      have E3 : Hid (Env D w [(w.heap.size + 1, 25, [.slice none 0 0]), (w.heap.size, 25, [.slice xa X.length xk])] [.rw (.slice ra l.length rk) l.length 11 l.flatten, .gn (gUl (.slice xa X.length xk) X)] _) := Lib.hid ((E2.out.set 0 0 (.slice none 0 0) rfl))
      have hfin := E3.out
      have q2 := (hfin.bx 0 rfl).cell 0 rfl
      exact bodyPost_ret (v := (.tuple #[.agg #[.slice none 0 0], .int .i64 0, .int .i64 2])) (by simp [results, Try.results31, go_sem, q2]) rfl ⟨RetTI.fail HR.out, hfin.bel⟩
    have d2 : decide (now < 0) = false := decide_eq_false q2
    by_cases q3 : 1099511627776 < now
    · have d3 : decide (1099511627776 < now) = true := decide_eq_true q3
      have b1 := E2.out.bx 0 rfl
      have c1_0 := b1.cell 0 rfl
      have f1_0 := b1.frozen 0
      clear b1
      have HR : Hid (L = [] ∧ m = 0 ∧ n = 2) := Lib.hid (by have h := hr.out; rw [dropRes_range HV.out HQ1.out (.inr q3)] at h; simpa [eq_comm] using h)
      go_wp2
      have E3 : Hid (Env D w [(w.heap.size + 1, 25, [.slice none 0 0]), (w.heap.size, 25, [.slice xa X.length xk])] [.rw (.slice ra l.length rk) l.length 11 l.flatten, .gn (gUl (.slice xa X.length xk) X)] _) := Lib.hid ((E2.out.set 0 0 (.slice none 0 0) rfl))
      have hfin := E3.out
      have q2 := (hfin.bx 0 rfl).cell 0 rfl
      exact bodyPost_ret (v := (.tuple #[.agg #[.slice none 0 0], .int .i64 0, .int .i64 2])) (by simp [results, Try.results31, go_sem, q2]) rfl ⟨RetTI.fail HR.out, hfin.bel⟩
    have d3 : decide (1099511627776 < now) = false := decide_eq_false q3
    have HNW : Hid (¬ (now < 0 ∨ 1099511627776 < now)) := Lib.hid (by omega)
    clear q2 q3
    have E3 : Hid (Env D w [(w1.heap.size, 25, [.slice none 0 0]), (w.heap.size + 1, 25, [.slice none 0 0]), (w.heap.size, 25, [.slice xa X.length xk])] [.rw (.slice ra l.length rk) l.length 11 l.flatten, .gn (gUl (.slice xa X.length xk) X)] _) := Lib.hid ((E2.out.push 25 [.slice none 0 0] (w1.heap.size) (by simp)))
    have b1 := E3.out.bx 2 rfl
    have c1_0 := b1.cell 0 rfl
    clear b1
    have E4 : Hid (Env D w ((w1.heap.size, 25, [.slice none 0 0]) :: (w.heap.size + 1, 25, [.slice none 0 0]) :: (w.heap.size, 25, [.slice xa X.length xk]) :: ([] : List Bx)) [.gn (gUd []), .rw (.slice ra l.length rk) l.length 11 l.flatten, .gn (gUl (.slice xa X.length xk) X)] _) := Lib.hid ((E3.out.note (.gn (gUd [])) gUd.nil).cast (by simp))
    go_wp2_with fail
    have hZ := E4.out
    have ES : Hid (Env D w ((w1.heap.size, 25, [.slice none 0 0]) :: (w.heap.size + 1, 25, [.slice none 0 0]) :: (w.heap.size, 25, [.slice xa X.length xk]) :: ([] : List Bx)) [.gn (gUd []), .rw (.slice ra l.length rk) l.length 11 l.flatten, .gn (gUl (.slice xa X.length xk) X)] _) := Lib.hid ⟨hZ.bel, hZ.box, ⟨hZ.fc 0 rfl, ⟨hZ.fc 1 rfl, ⟨hZ.fc 2 rfl, trivial⟩⟩⟩⟩
    clear hZ
    go_loopg [33] (X.length) (fun gk s33 wr => ∃ (k : Nat) (os : List Bx) (oc : List Value) (oa : Option Addr) (ok : Nat) (oX : List Uv), s33 = .int .i64 (k : Int) ∧ Hid (Env D w ((w1.heap.size, 25, [.slice oa oX.length ok]) :: (w.heap.size + 1, 25, [.slice none 0 0]) :: (w.heap.size, 25, [.slice xa X.length xk]) :: os) [.gn (gUd oX), .rw (.slice ra l.length rk) l.length 11 l.flatten, .gn (gUl (.slice xa X.length xk) X)] wr) ∧ Hid (OU os oc (.slice oa oX.length ok) oX) ∧ Hid ((k ≤ X.length ∧ gk = X.length - k) ∧ oX.map Uv.u = keepN ((X.map Uv.u).take k) l now))
    case atStart => exact ⟨0, ([] : List Bx), [], none, 0, [], rfl, Lib.hid (ES.out.cast (by simp)), (Lib.hid OU.nil), Lib.hid ⟨⟨Nat.zero_le _, rfl⟩, rfl⟩⟩
    case round =>
      clear c1_0 E2 E3 E4 ES d1 d1b d2 d3
      obtain ⟨k, os, oc, oa, ok, oX, rfl, EL, oO, HA⟩ := hrel
      obtain ⟨⟨a1, a2⟩, a3⟩ := HA.out
      have HX := Lib.hid a3
      clear a3 HA
      have HOB : Hid (oX.length ≤ X.length) := Lib.hid (by have h := congrArg List.length HX.out; rw [List.length_map] at h; have h2 := keepN_len ((X.map Uv.u).take k) l now; rw [List.length_take, HL.out] at h2; omega)
      by_cases hy : k = X.length
      · skip
        have t6 : decide ((k : Int) < (X.length : Int)) = false := decide_eq_false (by omega)
        have t7 : decide (k < X.length) = false := decide_eq_false (by omega)
        have HX2 : Hid (oX.map Uv.u = keepN (X.map Uv.u) l now) := Lib.hid (by rw [HX.out, hy, ← HL.out, List.take_length])
        have HY := Lib.hid hy
        clear hy
        obtain ⟨dn, hdn⟩ : ∃ dn : Int, (X.length : Int) - (oX.length : Int) = dn := ⟨_, rfl⟩
        have wsub : IntKind.i64.wrap ((X.length : Int) - (oX.length : Int)) = dn := by rw [← hdn, IntKind.wrap_i64]; have := HOB.out; omega
        have HDN := Lib.hid hdn
        clear hdn
        have HR : Hid (oX.map Uv.u = L ∧ dn = m ∧ n = 0) := Lib.hid (by have h := hr.out; rw [dropRes_ok HV.out HQ1.out HNW.out] at h; simp only [Prod.mk.injEq] at h; refine ⟨HX2.out.trans h.1, ?_, h.2.2.symm⟩; rw [← h.2.1, ← HDN.out, ← HX2.out, List.length_map, List.length_map])
        go_upto_region 12 with (fail)
        have E5 : Hid (Env D w [(w1.heap.size, 25, [.slice oa oX.length ok]), (w.heap.size + 1, 25, [.slice none 0 0]), (w.heap.size, 25, [.slice xa X.length xk])] [.gn (gUl (.slice oa oX.length ok) oX), .gn (gUd oX), .rw (.slice ra l.length rk) l.length 11 l.flatten, .gn (gUl (.slice xa X.length xk) X)] _) := Lib.hid (Env.freezeU (A := [(w1.heap.size, 25, [.slice oa oX.length ok]), (w.heap.size + 1, 25, [.slice none 0 0]), (w.heap.size, 25, [.slice xa X.length xk])]) (sg := os) (EL.out.cast (by simp)) oO.out 0 rfl)
        go_wp2_with fail
        have E6 : Hid (Env D w [(w1.heap.size, 25, [.slice oa oX.length ok]), (w.heap.size + 1, 25, [.slice none 0 0]), (w.heap.size, 25, [.slice xa X.length xk])] [.gn (gUl (.slice oa oX.length ok) oX), .gn (gUd oX), .rw (.slice ra l.length rk) l.length 11 l.flatten, .gn (gUl (.slice xa X.length xk) X)] (wr.drew)) := Lib.hid E5.out.drew
        clear E5
        refine wp_regionU (S := fun w' => w'.cell? ⟨w1.heap.size, 0, none⟩ = some (.slice oa oX.length ok) ∧ w'.cell? ⟨w.heap.size, 0, none⟩ = some (.slice xa X.length xk)) [] (by kernel_rfl) (⟨((E6.out.bx 0 rfl).cell 0 rfl), ((E6.out.bx 2 rfl).cell 0 rfl)⟩) (fun hHeld => ?_)
        generalize wr.drew = w2 at *
        refine uTake (i := 0) (some 52) (v := ?_) rfl rfl (by kernel_rfl) (by kernel_rfl) (by kernel_rfl) (by kernel_rfl) (fun _ _ _ h => h) (by rfl) (by assumption) ?_ ?_
        rotate_left
        · (intro wS hSw; (try dsimp only at hSw); go_simp; try with_reducible rfl)
        try simp only [Act.put, List.setIfInBounds_toArray, List.set_cons_zero, List.set_cons_succ]
        refine uTake (i := 1) (some 53) (v := ?_) rfl rfl (by kernel_rfl) (by kernel_rfl) (by kernel_rfl) (by kernel_rfl) (fun _ _ _ h => h) (by rfl) (by assumption) ?_ ?_
        rotate_left
        · (intro wS hSw; (try dsimp only at hSw); go_simp; try with_reducible rfl)
        try simp only [Act.put, List.setIfInBounds_toArray, List.set_cons_zero, List.set_cons_succ]
        refine uTake (i := 2) (some 54) (v := ?_) rfl rfl (by kernel_rfl) (by kernel_rfl) (by kernel_rfl) (by kernel_rfl) (fun _ _ _ h => h) (by rfl) (by assumption) ?_ ?_
        rotate_left
        · (intro wS hSw; (try dsimp only at hSw); go_simp; try with_reducible rfl)
        try simp only [Act.put, List.setIfInBounds_toArray, List.set_cons_zero, List.set_cons_succ]
        refine uTake (i := 3) (some 55) (v := ?_) rfl rfl (by kernel_rfl) (by kernel_rfl) (by kernel_rfl) (by kernel_rfl) (fun _ _ _ h => h) (by rfl) (by assumption) ?_ ?_
        rotate_left
        · (intro wS hSw; (try dsimp only at hSw); go_simp; try with_reducible rfl)
        try simp only [Act.put, List.setIfInBounds_toArray, List.set_cons_zero, List.set_cons_succ]
        refine uTake (i := 4) (some 56) (v := ?_) rfl rfl (by kernel_rfl) (by kernel_rfl) (by kernel_rfl) (by kernel_rfl) (fun _ _ _ h => h) (by rfl) (by assumption) ?_ ?_
        rotate_left
        · (intro wS hSw; (try dsimp only at hSw); go_simp; try with_reducible rfl)
        try simp only [Act.put, List.setIfInBounds_toArray, List.set_cons_zero, List.set_cons_succ]
        refine uTake (i := 5) (some 57) (v := ?_) rfl rfl (by kernel_rfl) (by kernel_rfl) (by kernel_rfl) (by kernel_rfl) (fun _ _ _ h => h) (by rfl) (by assumption) ?_ ?_
        rotate_left
        · (intro wS hSw; (try dsimp only at hSw); go_simp; try with_reducible rfl)
        try simp only [Act.put, List.setIfInBounds_toArray, List.set_cons_zero, List.set_cons_succ]
        refine uTake (i := 6) (some 58) (v := ?_) rfl rfl (by kernel_rfl) (by kernel_rfl) (by kernel_rfl) (by kernel_rfl) (fun _ _ _ h => h) (by rfl) (by assumption) ?_ ?_
        rotate_left
        · (intro wS hSw; (try dsimp only at hSw); go_simp; try with_reducible rfl)
        try simp only [Act.put, List.setIfInBounds_toArray, List.set_cons_zero, List.set_cons_succ]
        refine uTake (i := 7) (some 59) (v := ?_) rfl rfl (by kernel_rfl) (by kernel_rfl) (by kernel_rfl) (by kernel_rfl) (fun _ _ _ h => h) (by rfl) (by assumption) ?_ ?_
        rotate_left
        · (intro wS hSw; (try dsimp only at hSw); go_simp; try with_reducible rfl)
        try simp only [Act.put, List.setIfInBounds_toArray, List.set_cons_zero, List.set_cons_succ]
        have b2 := E6.out.bx 1 rfl
        have c2_0 := b2.cell 0 rfl
        have f2_0 := b2.frozen 0
        clear b2
        refine uReady (rs := [8]) (by kernel_rfl) (by simp) ?_
        refine ReadyU.cons rfl (fun KK hKK => ?_) ReadyU.nil
        go_simp
        have E7 : Hid (Env D w [(w1.heap.size, 25, [.slice oa oX.length ok]), (w.heap.size + 1, 25, [.slice oa oX.length ok]), (w.heap.size, 25, [.slice xa X.length xk])] [.gn (gUl (.slice oa oX.length ok) oX), .gn (gUd oX), .rw (.slice ra l.length rk) l.length 11 l.flatten, .gn (gUl (.slice xa X.length xk) X)] _) := Lib.hid ((E6.out.set 1 0 (.slice oa oX.length ok) rfl))
        (try dsimp only)
        clear hHeld
        refine hKK.out _ _ (⟨((E7.out.bx 0 rfl).cell 0 rfl), ((E7.out.bx 2 rfl).cell 0 rfl)⟩) (fun hHeld => ?_)
        clear hKK KK
        try simp only [Act.put, List.setIfInBounds_toArray, List.set_cons_zero, List.set_cons_succ]
        refine uTake (i := 9) (some 7) (v := ?_) rfl rfl (by kernel_rfl) (by kernel_rfl) (by kernel_rfl) (by kernel_rfl) (fun _ _ _ h => h) (by rfl) (by assumption) ?_ ?_
        rotate_left
        · (intro wS hSw; (try dsimp only at hSw); go_simp; try with_reducible rfl)
        try simp only [Act.put, List.setIfInBounds_toArray, List.set_cons_zero, List.set_cons_succ]
        refine uTake (i := 10) (some 8) (v := ?_) rfl rfl (by kernel_rfl) (by kernel_rfl) (by kernel_rfl) (by kernel_rfl) (fun _ _ _ h => h) (by rfl) (by assumption) ?_ ?_
        rotate_left
        · (intro wS hSw; (try dsimp only at hSw); go_simp; try with_reducible rfl)
        try simp only [Act.put, List.setIfInBounds_toArray, List.set_cons_zero, List.set_cons_succ]
        refine uDone (by kernel_rfl) ?_ _
        go_wp2_with fail
        have HRO : Hid ((gUl (.slice oa oX.length ok) oX).at_ _ (fun b => D b ∨ w.heap.size ≤ b)) := Lib.hid (E7.out.out 0 rfl)
        have b3 := E7.out.bx 1 rfl
        have c3_0 := b3.cell 0 rfl
        clear b3
        go_wp2
        have hfin := E7.out
        have q4 := (hfin.bx 1 rfl).cell 0 rfl
        exact bodyPost_ret (v := (.tuple #[.agg #[.slice oa oX.length ok], .int .i64 dn, .int .i64 0])) (by simp [results, Try.results31, go_sem, q4]) rfl ⟨⟨oa, ok, oX, by rw [HR.out.2.1, HR.out.2.2], HR.out.1, HRO⟩, hfin.bel⟩
      have hk : k < X.length := lt_of hy a1
      have t6 : decide ((k : Int) < (X.length : Int)) = true := decide_eq_true (by omega)
      have t7 : decide (k < X.length) = true := decide_eq_true (by omega)
      have hkI : (k : Int) < (X.length : Int) := by omega
      clear hy
      have HOL : Hid (oX.length + 1 ≤ 1000000) := Lib.hid (by have := HOB.out; omega)
      go_upto_region 8 with (fail)
      obtain ⟨xab, xao, rfl⟩ := gUl.addr (EL.out.fc 2 rfl) (List.ne_nil_of_length_pos (Nat.lt_of_le_of_lt (Nat.zero_le _) hk))
      obtain ⟨e, ee⟩ : ∃ x, X[k] = x := ⟨_, rfl⟩
      have eE := Lib.hid ee
      clear ee
      have E5 : Hid (Env D w ((w1.heap.size, 25, [.slice oa oX.length ok]) :: (w.heap.size + 1, 25, [.slice none 0 0]) :: (w.heap.size, 25, [.slice (some ⟨xab, xao, none⟩) X.length xk]) :: os) [.gn (gRg xab (xao + k * 83) (usc e.u e.la e.pa)), .gn (gSp e.u.sp e.la e.pa), .gn (gUd oX), .rw (.slice ra l.length rk) l.length 11 l.flatten, .gn (gUl (.slice (some ⟨xab, xao, none⟩) X.length xk) X)] _) := Lib.hid (EL.out.elU 2 rfl hk eE.out)
      clear EL
      have eS := Lib.hid (E5.out.spOk 1 rfl)
      have eN : Hid (∀ v ∈ usc e.u e.la e.pa, v.oneCell' = true) := Lib.hid (usc_one eS.out (Rw.oneV (E5.out.fc 1 rfl).2.1) (Rw.oneV (E5.out.fc 1 rfl).2.2))
      have HU : Hid ((X.map Uv.u)[k]? = some e.u) := Lib.hid (map_get hk eE.out)
      have HBE : Hid (e.u.sp.lv.length ≤ 1000000 ∧ e.u.sp.pa.length ≤ 1000000) := Lib.hid (hb.out e (by rw [← eE.out]; exact List.getElem_mem hk))
      obtain ⟨ex, hex⟩ : ∃ ex, expT l e.u.sp.cn now = ex := ⟨_, rfl⟩
      have HEX := Lib.hid hex
      clear hex
      have r2 := Lib.hid (E5.out.fc 0 rfl).2
      have E6 : Hid (Env D w ((wr.heap.size, 44, usc zU nilV nilV) :: (w1.heap.size, 25, [.slice oa oX.length ok]) :: (w.heap.size + 1, 25, [.slice none 0 0]) :: (w.heap.size, 25, [.slice (some ⟨xab, xao, none⟩) X.length xk]) :: os) [.gn (gRg xab (xao + k * 83) (usc e.u e.la e.pa)), .gn (gSp e.u.sp e.la e.pa), .gn (gUd oX), .rw (.slice ra l.length rk) l.length 11 l.flatten, .gn (gUl (.slice (some ⟨xab, xao, none⟩) X.length xk) X)] _) := Lib.hid ((E5.out.push 44 (usc zU nilV nilV) (wr.heap.size) (by simp)))
      have b3 := Lib.hid (E6.out.bx 0 rfl)
      cases ex with
      | true =>
        have E7 : Hid (Env D w ((wr.heap.size, 44, usc e.u e.la e.pa) :: (w1.heap.size, 25, [.slice oa oX.length ok]) :: (w.heap.size + 1, 25, [.slice none 0 0]) :: (w.heap.size, 25, [.slice (some ⟨xab, xao, none⟩) X.length xk]) :: os) [.gn (gRg xab (xao + k * 83) (usc e.u e.la e.pa)), .gn (gSp e.u.sp e.la e.pa), .gn (gUd oX), .rw (.slice ra l.length rk) l.length 11 l.flatten, .gn (gUl (.slice (some ⟨xab, xao, none⟩) X.length xk) X)] _) := Lib.hid ((E6.out.whole 0 (usc e.u e.la e.pa) rfl ((usc_len eS.out _ _).trans (usc_len zS_ok _ _).symm)))
        have b4 := E7.out.bx 0 rfl
        have r4 := Lib.hid (b4.range (o := 2) (usc_cn eS.out _ _))
        clear b4
        go_wp2_with (first | (with_reducible refine wpl_load_b bUse xab (xao + k * 83) ?_ ?_ (usc e.u e.la e.pa) (usc_len eS.out _ _) r2.out ?_; (· exact ⟨_, rfl, rfl⟩); (· kernel_rfl)) | (with_reducible refine wpl_alloc_b ?_ ?_ _ zvUse ?_; (· rfl); (· rfl)) | (with_reducible refine wpl_store_b bUse wr.heap.size 0 (usc e.u e.la e.pa) ?_ ?_ (usc_len eS.out _ _) (Box.there b3.out (Nat.le_of_eq (usc_len zS_ok _ _).symm)) eN.out ?_; (· first | exact ⟨_, _, rfl, rfl, rfl⟩ | (refine ⟨_, _, rfl, ?_, ?_⟩ <;> simp [Act.eval, Act.put])); (· kernel_rfl)) | (with_reducible refine wpl_load_w wCoin wr.heap.size 2 ?_ ?_ e.u.sp.cn eS.out.cn r4.out ?_; (· exact ⟨_, rfl, rfl⟩); (· kernel_rfl)))
        refine (expired_c l e.u.sp.cn now (E7.out.fc 3 rfl) hok.out eS.out.cn HL9.out (t := true) HEX.out).mono ?_
        rintro e w2 ⟨rfl, hb⟩
        have E8 : Hid (Env D w ((wr.heap.size, 44, usc e.u e.la e.pa) :: (w1.heap.size, 25, [.slice oa oX.length ok]) :: (w.heap.size + 1, 25, [.slice none 0 0]) :: (w.heap.size, 25, [.slice (some ⟨xab, xao, none⟩) X.length xk]) :: os) [.gn (gRg xab (xao + k * 83) (usc e.u e.la e.pa)), .gn (gSp e.u.sp e.la e.pa), .gn (gUd oX), .rw (.slice ra l.length rk) l.length 11 l.flatten, .gn (gUl (.slice (some ⟨xab, xao, none⟩) X.length xk) X)] w2) := Lib.hid (E7.out.below hb)
        clear r2 b3 r4 E5 E6 E7 hb
        have HX2 : Hid (oX.map Uv.u = keepN ((X.map Uv.u).take (k + 1)) l now) := Lib.hid (by rw [keepN_take HU.out, if_pos HEX.out]; exact HX.out)
        have hZ := (E8.out.drop)
        have EZ : Hid (Env D w ((w1.heap.size, 25, [.slice oa oX.length ok]) :: (w.heap.size + 1, 25, [.slice none 0 0]) :: (w.heap.size, 25, [.slice (some ⟨xab, xao, none⟩) X.length xk]) :: os) [.gn (gUd oX), .rw (.slice ra l.length rk) l.length 11 l.flatten, .gn (gUl (.slice (some ⟨xab, xao, none⟩) X.length xk) X)] _) := Lib.hid ⟨hZ.bel, hZ.box, ⟨hZ.fc 2 rfl, ⟨hZ.fc 3 rfl, ⟨hZ.fc 4 rfl, trivial⟩⟩⟩⟩
        clear hZ
        go_wp2_with (first | (with_reducible refine wpl_alloc_b ?_ ?_ _ zvUse ?_; (· rfl); (· rfl)))
        go_roundg (X.length - (k + 1))
        case rel => exact ⟨k + 1, os, oc, _, _, oX, rfl, Lib.hid (EZ.out.cast (by simp)), oO, Lib.hid ⟨⟨by omega, rfl⟩, HX2.out⟩⟩
        case measure => exact by omega
      | false =>
        have E7 : Hid (Env D w ((wr.heap.size, 44, usc e.u e.la e.pa) :: (w1.heap.size, 25, [.slice oa oX.length ok]) :: (w.heap.size + 1, 25, [.slice none 0 0]) :: (w.heap.size, 25, [.slice (some ⟨xab, xao, none⟩) X.length xk]) :: os) [.gn (gRg xab (xao + k * 83) (usc e.u e.la e.pa)), .gn (gSp e.u.sp e.la e.pa), .gn (gUd oX), .rw (.slice ra l.length rk) l.length 11 l.flatten, .gn (gUl (.slice (some ⟨xab, xao, none⟩) X.length xk) X)] _) := Lib.hid ((E6.out.whole 0 (usc e.u e.la e.pa) rfl ((usc_len eS.out _ _).trans (usc_len zS_ok _ _).symm)))
        have b4 := E7.out.bx 0 rfl
        have r4 := Lib.hid (b4.range (o := 2) (usc_cn eS.out _ _))
        clear b4
        go_wp2_with (first | (with_reducible refine wpl_load_b bUse xab (xao + k * 83) ?_ ?_ (usc e.u e.la e.pa) (usc_len eS.out _ _) r2.out ?_; (· exact ⟨_, rfl, rfl⟩); (· kernel_rfl)) | (with_reducible refine wpl_alloc_b ?_ ?_ _ zvUse ?_; (· rfl); (· rfl)) | (with_reducible refine wpl_store_b bUse wr.heap.size 0 (usc e.u e.la e.pa) ?_ ?_ (usc_len eS.out _ _) (Box.there b3.out (Nat.le_of_eq (usc_len zS_ok _ _).symm)) eN.out ?_; (· first | exact ⟨_, _, rfl, rfl, rfl⟩ | (refine ⟨_, _, rfl, ?_, ?_⟩ <;> simp [Act.eval, Act.put])); (· kernel_rfl)) | (with_reducible refine wpl_load_w wCoin wr.heap.size 2 ?_ ?_ e.u.sp.cn eS.out.cn r4.out ?_; (· exact ⟨_, rfl, rfl⟩); (· kernel_rfl)))
        refine (expired_c l e.u.sp.cn now (E7.out.fc 3 rfl) hok.out eS.out.cn HL9.out (t := false) HEX.out).mono ?_
        rintro e w2 ⟨rfl, hb⟩
        have E8 : Hid (Env D w ((wr.heap.size, 44, usc e.u e.la e.pa) :: (w1.heap.size, 25, [.slice oa oX.length ok]) :: (w.heap.size + 1, 25, [.slice none 0 0]) :: (w.heap.size, 25, [.slice (some ⟨xab, xao, none⟩) X.length xk]) :: os) [.gn (gRg xab (xao + k * 83) (usc e.u e.la e.pa)), .gn (gSp e.u.sp e.la e.pa), .gn (gUd oX), .rw (.slice ra l.length rk) l.length 11 l.flatten, .gn (gUl (.slice (some ⟨xab, xao, none⟩) X.length xk) X)] w2) := Lib.hid (E7.out.below hb)
        clear r2 b3 r4 E5 E6 E7 hb
        go_upto_region 10 with (first | (with_reducible refine wpl_alloc_b ?_ ?_ _ zvUse ?_; (· rfl); (· rfl)))
        go_wp2_with (first | (with_reducible refine wpl_alloc_b ?_ ?_ _ zvUse ?_; (· rfl); (· rfl)))
        have E9 : Hid (Env D w ((wr.heap.size, 44, usc e.u e.la e.pa) :: (w1.heap.size, 25, [.slice oa oX.length ok]) :: (w.heap.size + 1, 25, [.slice none 0 0]) :: (w.heap.size, 25, [.slice (some ⟨xab, xao, none⟩) X.length xk]) :: os) [.gn (gRg xab (xao + k * 83) (usc e.u e.la e.pa)), .gn (gSp e.u.sp e.la e.pa), .gn (gUd oX), .rw (.slice ra l.length rk) l.length 11 l.flatten, .gn (gUl (.slice (some ⟨xab, xao, none⟩) X.length xk) X)] (w2.drew)) := Lib.hid E8.out.drew
        clear E8
        refine wp_regionU (S := fun w' => w'.cell? ⟨w1.heap.size, 0, none⟩ = some (.slice oa oX.length ok) ∧ w'.rangeAt wr.heap.size 0 (usc e.u e.la e.pa)) [7] (by kernel_rfl) (⟨((E9.out.bx 1 rfl).cell 0 rfl), ((E9.out.bx 0 rfl).range (o := 0) (fun j hj => by rw [Nat.zero_add]))⟩) (fun hHeld => ?_)
        generalize w2.drew = w3 at *
        refine uTake (i := 0) (some 44) (v := ?_) rfl rfl (by kernel_rfl) (by kernel_rfl) (by kernel_rfl) (by kernel_rfl) (fun _ _ _ h => h) (by rfl) (by assumption) ?_ ?_
        rotate_left
        · (intro wS hSw; (try dsimp only at hSw); go_simp; try with_reducible rfl)
        try simp only [Act.put, List.setIfInBounds_toArray, List.set_cons_zero, List.set_cons_succ]
        refine uTake (i := 1) (some 45) (v := ?_) rfl rfl (by kernel_rfl) (by kernel_rfl) (by kernel_rfl) (by kernel_rfl) (fun _ _ _ h => h) (by rfl) (by assumption) ?_ ?_
        rotate_left
        · (intro wS hSw; (try dsimp only at hSw); go_simp; try with_reducible rfl)
        try simp only [Act.put, List.setIfInBounds_toArray, List.set_cons_zero, List.set_cons_succ]
        refine uTake (i := 2) (some 46) (v := .agg (usc e.u e.la e.pa).toArray) rfl rfl (by kernel_rfl) (by kernel_rfl) (by kernel_rfl) (by kernel_rfl) (fun _ _ _ h => h) (by rfl) (by assumption) ?_ ?_
        · (intro wS hSw; (try dsimp only at hSw); revert hSw; (try simp only [and_imp]); intros; exact exec_load_b bUse _ rfl wr.heap.size 0 rfl (usc e.u e.la e.pa) (usc_len eS.out _ _) (by assumption))
        try simp only [Act.put, List.setIfInBounds_toArray, List.set_cons_zero, List.set_cons_succ]
        refine uReady (rs := [3]) (by kernel_rfl) (by simp) ?_
        refine ReadyU.cons rfl (fun KK hKK => ?_) ReadyU.nil
        go_simp
        refine (copyOf_c e.u (E9.out.fc 1 rfl) HBE.out).mono ?_
        rintro e w4 ⟨⟨ta, tb, rfl, th⟩, hb⟩
        have E10 : Hid (Env D w ((wr.heap.size, 44, usc e.u e.la e.pa) :: (w1.heap.size, 25, [.slice oa oX.length ok]) :: (w.heap.size + 1, 25, [.slice none 0 0]) :: (w.heap.size, 25, [.slice (some ⟨xab, xao, none⟩) X.length xk]) :: os) [.gn (gSp e.u.sp ta tb), .gn (gRg xab (xao + k * 83) (usc e.u e.la e.pa)), .gn (gSp e.u.sp e.la e.pa), .gn (gUd oX), .rw (.slice ra l.length rk) l.length 11 l.flatten, .gn (gUl (.slice (some ⟨xab, xao, none⟩) X.length xk) X)] w4) := Lib.hid (E9.out.got (E9.out.below hb) (.gn (gSp e.u.sp ta tb)) th.out)
        clear E9 hb th
        have tN : Hid (∀ v ∈ usc e.u ta tb, v.oneCell' = true) := Lib.hid (gUv.one (x := ⟨e.u, ta, tb⟩) (E10.out.fc 0 rfl))
        (try dsimp only)
        clear hHeld
        refine hKK.out _ _ (⟨((E10.out.bx 1 rfl).cell 0 rfl), ((E10.out.bx 0 rfl).range (o := 0) (fun j hj => by rw [Nat.zero_add]))⟩) (fun hHeld => ?_)
        clear hKK KK
        try simp only [Act.put, List.setIfInBounds_toArray, List.set_cons_zero, List.set_cons_succ]
        refine uReady (rs := [4]) (by kernel_rfl) (by simp) ?_
        refine ReadyU.cons rfl (fun KK hKK => ?_) ReadyU.nil
        refine op_slice1 (some 48) rfl rfl (.tmp 47) rfl (usc e.u ta tb) (usc_len eS.out _ _) (by simp [Act.eval, Act.put]; done) ?_
        have E11 : Hid (Env D w ((w4.heap.size, 44, usc e.u ta tb) :: (wr.heap.size, 44, usc e.u e.la e.pa) :: (w1.heap.size, 25, [.slice oa oX.length ok]) :: (w.heap.size + 1, 25, [.slice none 0 0]) :: (w.heap.size, 25, [.slice (some ⟨xab, xao, none⟩) X.length xk]) :: os) [.gn (gSp e.u.sp ta tb), .gn (gRg xab (xao + k * 83) (usc e.u e.la e.pa)), .gn (gSp e.u.sp e.la e.pa), .gn (gUd oX), .rw (.slice ra l.length rk) l.length 11 l.flatten, .gn (gUl (.slice (some ⟨xab, xao, none⟩) X.length xk) X)] _) := Lib.hid ((E10.out.push 44 (usc e.u ta tb) (w4.heap.size) (by simp)))
        (try dsimp only)
        clear hHeld
        refine hKK.out _ _ (⟨((E11.out.bx 2 rfl).cell 0 rfl), ((E11.out.bx 1 rfl).range (o := 0) (fun j hj => by rw [Nat.zero_add]))⟩) (fun hHeld => ?_)
        clear hKK KK
        try simp only [Act.put, List.setIfInBounds_toArray, List.set_cons_zero, List.set_cons_succ]
        clear E10
        generalize w4.alloc (.cells (usc e.u ta tb).toArray 44) = w5 at *
        refine uReady (rs := [5]) (by kernel_rfl) (by simp) ?_
        refine ReadyU.cons rfl (fun KK hKK => ?_) ReadyU.nil
        refine op_app1 (c := 1) tiUse (some 49) rfl rfl (.tmp 45) (.tmp 48) rfl E11.out (A := [(w4.heap.size, 44, usc e.u ta tb), (wr.heap.size, 44, usc e.u e.la e.pa), (w1.heap.size, 25, [.slice oa oX.length ok]), (w.heap.size + 1, 25, [.slice none 0 0]), (w.heap.size, 25, [.slice (some ⟨xab, xao, none⟩) X.length xk])]) (sg := os) (B' := []) (F := ((w4.heap.size, 44, usc e.u ta tb) :: (wr.heap.size, 44, usc e.u e.la e.pa) :: (w1.heap.size, 25, [.slice oa oX.length ok]) :: (w.heap.size + 1, 25, [.slice none 0 0]) :: (w.heap.size, 25, [.slice (some ⟨xab, xao, none⟩) X.length xk]) :: os)) (by simp) (oO.out.os rfl) (by simp [Act.eval, Act.put]) (by simp [Act.eval, Act.put]; done) (SrcN.box (m := 1) (E11.out.bx 0 rfl) (usc_len eS.out _ _) tN.out) HOL.out ?_
        intro zg zp zc w6 zH zT zE
        have zO := Lib.hid (OU.app (x := Uv.mk e.u ta tb) (g' := zg) (cs' := zc) (cap' := zp) oO.out rfl zH.out zT.out)
        have E12 : Hid (Env D w ((w4.heap.size, 44, usc e.u ta tb) :: (wr.heap.size, 44, usc e.u e.la e.pa) :: (w1.heap.size, 25, [.slice oa oX.length ok]) :: (w.heap.size + 1, 25, [.slice none 0 0]) :: (w.heap.size, 25, [.slice (some ⟨xab, xao, none⟩) X.length xk]) :: [(zg, 44, zc)]) [.gn (gUd (oX ++ [Uv.mk e.u ta tb])), .gn (gSp e.u.sp ta tb), .gn (gRg xab (xao + k * 83) (usc e.u e.la e.pa)), .gn (gSp e.u.sp e.la e.pa), .gn (gUd oX), .rw (.slice ra l.length rk) l.length 11 l.flatten, .gn (gUl (.slice (some ⟨xab, xao, none⟩) X.length xk) X)] w6) := Lib.hid ((zE.out.note (.gn (gUd (oX ++ [Uv.mk e.u ta tb]))) (gUd.app (x := Uv.mk e.u ta tb) (zE.out.fc 3 rfl) (zE.out.fc 0 rfl))).cast (by simp))
        clear E11 zE zH zT oO
        (try dsimp only)
        clear hHeld
        refine hKK.out _ _ (⟨((E12.out.bx 2 rfl).cell 0 rfl), ((E12.out.bx 1 rfl).range (o := 0) (fun j hj => by rw [Nat.zero_add]))⟩) (fun hHeld => ?_)
        clear hKK KK
        try simp only [Act.put, List.setIfInBounds_toArray, List.set_cons_zero, List.set_cons_succ]
        refine uTake (i := 6) (some 50) (v := ?_) rfl rfl (by kernel_rfl) (by kernel_rfl) (by kernel_rfl) (by kernel_rfl) (fun _ _ _ h => h) (by rfl) (by assumption) ?_ ?_
        rotate_left
        · (intro wS hSw; (try dsimp only at hSw); go_simp; try with_reducible rfl)
        try simp only [Act.put, List.setIfInBounds_toArray, List.set_cons_zero, List.set_cons_succ]
        have b5 := E12.out.bx 2 rfl
        have c5_0 := b5.cell 0 rfl
        have f5_0 := b5.frozen 0
        clear b5
        refine uReady (rs := [7]) (by kernel_rfl) (by simp) ?_
        refine ReadyU.consU (by kernel_rfl) rfl (fun KK hKK => ?_) ReadyU.nil
        go_simp
        have E13 : Hid (Env D w ((w4.heap.size, 44, usc e.u ta tb) :: (wr.heap.size, 44, usc e.u e.la e.pa) :: (w1.heap.size, 25, [.slice (some ⟨zg, 0, none⟩) (oX.length + 1) zp]) :: (w.heap.size + 1, 25, [.slice none 0 0]) :: (w.heap.size, 25, [.slice (some ⟨xab, xao, none⟩) X.length xk]) :: [(zg, 44, zc)]) [.gn (gUd (oX ++ [Uv.mk e.u ta tb])), .gn (gSp e.u.sp ta tb), .gn (gRg xab (xao + k * 83) (usc e.u e.la e.pa)), .gn (gSp e.u.sp e.la e.pa), .gn (gUd oX), .rw (.slice ra l.length rk) l.length 11 l.flatten, .gn (gUl (.slice (some ⟨xab, xao, none⟩) X.length xk) X)] _) := Lib.hid ((E12.out.set 2 0 (.slice (some ⟨zg, 0, none⟩) (oX.length + 1) zp) rfl))
        (try dsimp only)
        (try clear hHeld)
        refine hKK.out _ _ ?_
        clear hKK KK
        try simp only [Act.put, List.setIfInBounds_toArray, List.set_cons_zero, List.set_cons_succ]
        refine uDone (by kernel_rfl) ?_ _
        have HX2 : Hid ((oX ++ [Uv.mk e.u ta tb]).map Uv.u = keepN ((X.map Uv.u).take (k + 1)) l now) := Lib.hid (by rw [keepN_take HU.out, if_neg (by rw [HEX.out]; simp), List.map_append, HX.out]; rfl)
        have hZ := ((E13.out.drop).drop)
        have EZ : Hid (Env D w ((w1.heap.size, 25, [.slice (some ⟨zg, 0, none⟩) (oX.length + 1) zp]) :: (w.heap.size + 1, 25, [.slice none 0 0]) :: (w.heap.size, 25, [.slice (some ⟨xab, xao, none⟩) X.length xk]) :: [(zg, 44, zc)]) [.gn (gUd (oX ++ [Uv.mk e.u ta tb])), .rw (.slice ra l.length rk) l.length 11 l.flatten, .gn (gUl (.slice (some ⟨xab, xao, none⟩) X.length xk) X)] _) := Lib.hid ⟨hZ.bel, hZ.box, ⟨hZ.fc 0 rfl, ⟨hZ.fc 5 rfl, ⟨hZ.fc 6 rfl, trivial⟩⟩⟩⟩
        clear hZ
        go_wp2
        go_roundg (X.length - (k + 1))
        case rel => exact ⟨k + 1, [(zg, 44, zc)], zc, (some ⟨zg, 0, none⟩), zp, oX ++ [Uv.mk e.u ta tb], rfl, Lib.hid (EZ.out.cast (by simp)), (OU.len' zO), Lib.hid ⟨⟨by omega, rfl⟩, HX2.out⟩⟩
        case measure => exact by omega
set_option maxRecDepth 100000 in
set_option maxHeartbeats 8000000 in
theorem rdrop_c {D : Nat → Prop} (X : List Uv) (l : List (List Value)) (now : Int) {xa ra : Option Addr} {xk rk : Nat} {w : World} (hx : Fct.at w D (.gn (gUl (.slice xa X.length xk) X))) (hl : Fct.at w D (.rw (.slice ra l.length rk) l.length 11 l.flatten)) (hb0 : ∀ x ∈ X, x.u.sp.lv.length ≤ 1000000 ∧ x.u.sp.pa.length ≤ 1000000) (hok0 : ∀ c ∈ l, okc 116 c) (hm0 : X.length ≤ 100000) {L : List Us} {m n : Int} (hr0 : dropRes (X.map Uv.u) l now = (L, m, n)) :
    Calls Try.prog 32 #[.agg #[.slice xa X.length xk], .slice ra l.length rk, .int .i64 now] w fun e w' => RetTI (fun b => D b ∨ w.heap.size ≤ b) L m n e w' ∧ Below w.heap.size w w' := by
  have E0 : Hid (Env D w [] [.rw (.slice ra l.length rk) l.length 11 l.flatten, .gn (gUl (.slice xa X.length xk) X)] w) := Lib.hid (((Env.start D w).arg (.gn (gUl (.slice xa X.length xk) X)) hx).arg (.rw (.slice ra l.length rk) l.length 11 l.flatten) hl)
  clear hx hl
  go_enter Try.func32, Try.ntmps32
  have hb := Lib.hid hb0
  have hok := Lib.hid hok0
  have hm := Lib.hid hm0
  have hr := Lib.hid hr0
  clear hb0 hok0 hm0 hr0
  have HL : Hid ((X.map Uv.u).length = X.length) := Lib.hid (List.length_map ..)
  have hm9 := hm.out
  obtain ⟨v1, v1h⟩ : ∃ b : Bool, b = true ↔ ValidT (X.map Uv.u) := by by_cases h : ValidT (X.map Uv.u); (· exact ⟨true, ⟨fun _ => h, fun _ => rfl⟩⟩); exact ⟨false, ⟨fun h2 => Bool.noConfusion h2, fun h2 => absurd h2 h⟩⟩
  have v1H := Lib.hid v1h
  clear v1h
  cases v1 with
  | false =>
    go_wp2_with fail
    have E1 : Hid (Env D w [(w.heap.size + 1, 25, [.slice none 0 0]), (w.heap.size, 25, [.slice xa X.length xk])] [.rw (.slice ra l.length rk) l.length 11 l.flatten, .gn (gUl (.slice xa X.length xk) X)] _) := Lib.hid (((E0.out.push 25 [.slice xa X.length xk] (w.heap.size) (by simp)).push 25 [.slice none 0 0] (w.heap.size + 1) (by simp)))
    refine (rvalid_c X (E1.out.fc 1 rfl) hb.out (t := false) (by first | exact v1H.out | simpa using v1H.out) (by omega)).mono ?_
    rintro e w1 ⟨rfl, hb⟩
    have E2 : Hid (Env D w [(w.heap.size + 1, 25, [.slice none 0 0]), (w.heap.size, 25, [.slice xa X.length xk])] [.rw (.slice ra l.length rk) l.length 11 l.flatten, .gn (gUl (.slice xa X.length xk) X)] w1) := Lib.hid (E1.out.below hb)
    clear E0 E1 hb
    have b1 := E2.out.bx 0 rfl
    have c1_0 := b1.cell 0 rfl
    have f1_0 := b1.frozen 0
    clear b1
    have HR : Hid (L = [] ∧ m = 0 ∧ n = 1) := Lib.hid (by have h := hr.out; rw [dropRes_bad (.inl (by simpa using v1H.out))] at h; simpa [eq_comm] using h)
    go_wp2
    have E3 : Hid (Env D w [(w.heap.size + 1, 25, [.slice none 0 0]), (w.heap.size, 25, [.slice xa X.length xk])] [.rw (.slice ra l.length rk) l.length 11 l.flatten, .gn (gUl (.slice xa X.length xk) X)] _) := Lib.hid ((E2.out.set 0 0 (.slice none 0 0) rfl))
    have hfin := E3.out
    have q2 := (hfin.bx 0 rfl).cell 0 rfl
    exact bodyPost_ret (v := (.tuple #[.agg #[.slice none 0 0], .int .i64 0, .int .i64 1])) (by simp [results, Try.results32, go_sem, q2]) rfl ⟨RetTI.fail HR.out, hfin.bel⟩
  | true =>
    have HV : Hid (ValidT (X.map Uv.u)) := Lib.hid (v1H.out.1 (by simp))
    by_cases q1 : 1000 < l.length
    · have d1 : decide ((1000 : Int) < (l.length : Int)) = true := decide_eq_true (by omega)
      have d1b : decide (1000 < l.length) = true := decide_eq_true q1
      go_wp2_with fail
      have E1 : Hid (Env D w [(w.heap.size + 1, 25, [.slice none 0 0]), (w.heap.size, 25, [.slice xa X.length xk])] [.rw (.slice ra l.length rk) l.length 11 l.flatten, .gn (gUl (.slice xa X.length xk) X)] _) := Lib.hid (((E0.out.push 25 [.slice xa X.length xk] (w.heap.size) (by simp)).push 25 [.slice none 0 0] (w.heap.size + 1) (by simp)))
      refine (rvalid_c X (E1.out.fc 1 rfl) hb.out (t := true) (by first | exact v1H.out | simpa using v1H.out) (by omega)).mono ?_
      rintro e w1 ⟨rfl, hb⟩
      have E2 : Hid (Env D w [(w.heap.size + 1, 25, [.slice none 0 0]), (w.heap.size, 25, [.slice xa X.length xk])] [.rw (.slice ra l.length rk) l.length 11 l.flatten, .gn (gUl (.slice xa X.length xk) X)] w1) := Lib.hid (E1.out.below hb)
      clear E0 E1 hb
      have b1 := E2.out.bx 0 rfl
      have c1_0 := b1.cell 0 rfl
      have f1_0 := b1.frozen 0
      clear b1
      have HR : Hid (L = [] ∧ m = 0 ∧ n = 1) := Lib.hid (by have h := hr.out; rw [dropRes_bad (.inr q1)] at h; simpa [eq_comm] using h)
      go_wp2
      have E3 : Hid (Env D w [(w.heap.size + 1, 25, [.slice none 0 0]), (w.heap.size, 25, [.slice xa X.length xk])] [.rw (.slice ra l.length rk) l.length 11 l.flatten, .gn (gUl (.slice xa X.length xk) X)] _) := Lib.hid ((E2.out.set 0 0 (.slice none 0 0) rfl))
      have hfin := E3.out
      have q2 := (hfin.bx 0 rfl).cell 0 rfl
      exact bodyPost_ret (v := (.tuple #[.agg #[.slice none 0 0], .int .i64 0, .int .i64 1])) (by simp [results, Try.results32, go_sem, q2]) rfl ⟨RetTI.fail HR.out, hfin.bel⟩
    have d1 : decide ((1000 : Int) < (l.length : Int)) = false := decide_eq_false (by omega)
    have d1b : decide (1000 < l.length) = false := decide_eq_false q1
    have HQ1 := Lib.hid q1
    have hl9 : l.length ≤ 1000000 := by omega
    have HL9 := Lib.hid hl9
    clear q1 hl9
    go_wp2_with fail
    have E1 : Hid (Env D w [(w.heap.size + 1, 25, [.slice none 0 0]), (w.heap.size, 25, [.slice xa X.length xk])] [.rw (.slice ra l.length rk) l.length 11 l.flatten, .gn (gUl (.slice xa X.length xk) X)] _) := Lib.hid (((E0.out.push 25 [.slice xa X.length xk] (w.heap.size) (by simp)).push 25 [.slice none 0 0] (w.heap.size + 1) (by simp)))
    refine (rvalid_c X (E1.out.fc 1 rfl) hb.out (t := true) (by first | exact v1H.out | simpa using v1H.out) (by omega)).mono ?_
    rintro e w1 ⟨rfl, hb⟩
    have E2 : Hid (Env D w [(w.heap.size + 1, 25, [.slice none 0 0]), (w.heap.size, 25, [.slice xa X.length xk])] [.rw (.slice ra l.length rk) l.length 11 l.flatten, .gn (gUl (.slice xa X.length xk) X)] w1) := Lib.hid (E1.out.below hb)
    clear E0 E1 hb
    by_cases q2 : now < 0
    · have d2 : decide (now < 0) = true := decide_eq_true q2
      have b1 := E2.out.bx 0 rfl
      have c1_0 := b1.cell 0 rfl
      have f1_0 := b1.frozen 0
      clear b1
      have HR : Hid (L = [] ∧ m = 0 ∧ n = 2) := Lib.hid (by have h := hr.out; rw [dropRes_range HV.out HQ1.out (.inl q2)] at h; simpa [eq_comm] using h)
      go_wp2
      have E3 : Hid (Env D w [(w.heap.size + 1, 25, [.slice none 0 0]), (w.heap.size, 25, [.slice xa X.length xk])] [.rw (.slice ra l.length rk) l.length 11 l.flatten, .gn (gUl (.slice xa X.length xk) X)] _) := Lib.hid ((E2.out.set 0 0 (.slice none 0 0) rfl))
      have hfin := E3.out
      have q2 := (hfin.bx 0 rfl).cell 0 rfl
      exact bodyPost_ret (v := (.tuple #[.agg #[.slice none 0 0], .int .i64 0, .int .i64 2])) (by simp [results, Try.results32, go_sem, q2]) rfl ⟨RetTI.fail HR.out, hfin.bel⟩
    have d2 : decide (now < 0) = false := decide_eq_false q2
    by_cases q3 : 1099511627776 < now
    · have d3 : decide (1099511627776 < now) = true := decide_eq_true q3
      have b1 := E2.out.bx 0 rfl
      have c1_0 := b1.cell 0 rfl
      have f1_0 := b1.frozen 0
      clear b1
      have HR : Hid (L = [] ∧ m = 0 ∧ n = 2) := Lib.hid (by have h := hr.out; rw [dropRes_range HV.out HQ1.out (.inr q3)] at h; simpa [eq_comm] using h)
      go_wp2
      have E3 : Hid (Env D w [(w.heap.size + 1, 25, [.slice none 0 0]), (w.heap.size, 25, [.slice xa X.length xk])] [.rw (.slice ra l.length rk) l.length 11 l.flatten, .gn (gUl (.slice xa X.length xk) X)] _) := Lib.hid ((E2.out.set 0 0 (.slice none 0 0) rfl))
      have hfin := E3.out
      have q2 := (hfin.bx 0 rfl).cell 0 rfl
      exact bodyPost_ret (v := (.tuple #[.agg #[.slice none 0 0], .int .i64 0, .int .i64 2])) (by simp [results, Try.results32, go_sem, q2]) rfl ⟨RetTI.fail HR.out, hfin.bel⟩
    have d3 : decide (1099511627776 < now) = false := decide_eq_false q3
    have HNW : Hid (¬ (now < 0 ∨ 1099511627776 < now)) := Lib.hid (by omega)
    clear q2 q3
    have E3 : Hid (Env D w [(w1.heap.size, 25, [.slice none 0 0]), (w.heap.size + 1, 25, [.slice none 0 0]), (w.heap.size, 25, [.slice xa X.length xk])] [.rw (.slice ra l.length rk) l.length 11 l.flatten, .gn (gUl (.slice xa X.length xk) X)] _) := Lib.hid ((E2.out.push 25 [.slice none 0 0] (w1.heap.size) (by simp)))
    have E4 : Hid (Env D w ((w1.heap.size, 25, [.slice none 0 0]) :: (w.heap.size + 1, 25, [.slice none 0 0]) :: (w.heap.size, 25, [.slice xa X.length xk]) :: ([] : List Bx)) [.gn (gUd []), .rw (.slice ra l.length rk) l.length 11 l.flatten, .gn (gUl (.slice xa X.length xk) X)] _) := Lib.hid ((E3.out.note (.gn (gUd [])) gUd.nil).cast (by simp))
    go_wp2_with fail
    have hZ := E4.out
    have ES : Hid (Env D w ((w1.heap.size, 25, [.slice none 0 0]) :: (w.heap.size + 1, 25, [.slice none 0 0]) :: (w.heap.size, 25, [.slice xa X.length xk]) :: ([] : List Bx)) [.gn (gUd []), .rw (.slice ra l.length rk) l.length 11 l.flatten, .gn (gUl (.slice xa X.length xk) X)] _) := Lib.hid ⟨hZ.bel, hZ.box, ⟨hZ.fc 0 rfl, ⟨hZ.fc 1 rfl, ⟨hZ.fc 2 rfl, trivial⟩⟩⟩⟩
    clear hZ
    go_loopg [10] (X.length) (fun gk s10 wr => ∃ (k : Nat) (os : List Bx) (oc : List Value) (oa : Option Addr) (ok : Nat) (oX : List Uv), s10 = .int .i64 (k : Int) ∧ Hid (Env D w ((w1.heap.size, 25, [.slice oa oX.length ok]) :: (w.heap.size + 1, 25, [.slice none 0 0]) :: (w.heap.size, 25, [.slice xa X.length xk]) :: os) [.gn (gUd oX), .rw (.slice ra l.length rk) l.length 11 l.flatten, .gn (gUl (.slice xa X.length xk) X)] wr) ∧ Hid (OU os oc (.slice oa oX.length ok) oX) ∧ Hid ((k ≤ X.length ∧ gk = X.length - k) ∧ oX.map Uv.u = keepN ((X.map Uv.u).take k) l now))
    case atStart => exact ⟨0, ([] : List Bx), [], none, 0, [], rfl, Lib.hid (ES.out.cast (by simp)), (Lib.hid OU.nil), Lib.hid ⟨⟨Nat.zero_le _, rfl⟩, rfl⟩⟩
    case round =>
      clear E2 E3 E4 ES d1 d1b d2 d3
      obtain ⟨k, os, oc, oa, ok, oX, rfl, EL, oO, HA⟩ := hrel
      obtain ⟨⟨a1, a2⟩, a3⟩ := HA.out
      have HX := Lib.hid a3
      clear a3 HA
      have HOB : Hid (oX.length ≤ X.length) := Lib.hid (by have h := congrArg List.length HX.out; rw [List.length_map] at h; have h2 := keepN_len ((X.map Uv.u).take k) l now; rw [List.length_take, HL.out] at h2; omega)
      by_cases hy : k = X.length
      · skip
        have t6 : decide ((k : Int) < (X.length : Int)) = false := decide_eq_false (by omega)
        have t7 : decide (k < X.length) = false := decide_eq_false (by omega)
        have HX2 : Hid (oX.map Uv.u = keepN (X.map Uv.u) l now) := Lib.hid (by rw [HX.out, hy, ← HL.out, List.take_length])
        have HY := Lib.hid hy
        clear hy
        obtain ⟨dn, hdn⟩ : ∃ dn : Int, (X.length : Int) - (oX.length : Int) = dn := ⟨_, rfl⟩
        have wsub : IntKind.i64.wrap ((X.length : Int) - (oX.length : Int)) = dn := by rw [← hdn, IntKind.wrap_i64]; have := HOB.out; omega
        have HDN := Lib.hid hdn
        clear hdn
        have HR : Hid (oX.map Uv.u = L ∧ dn = m ∧ n = 0) := Lib.hid (by have h := hr.out; rw [dropRes_ok HV.out HQ1.out HNW.out] at h; simp only [Prod.mk.injEq] at h; refine ⟨HX2.out.trans h.1, ?_, h.2.2.symm⟩; rw [← h.2.1, ← HDN.out, ← HX2.out, List.length_map, List.length_map])
        have b1 := EL.out.bx 2 rfl
        have c1_0 := b1.cell 0 rfl
        clear b1
        go_upto_region 11 with (fail)
        have E5 : Hid (Env D w [(w1.heap.size, 25, [.slice oa oX.length ok]), (w.heap.size + 1, 25, [.slice none 0 0]), (w.heap.size, 25, [.slice xa X.length xk])] [.gn (gUl (.slice oa oX.length ok) oX), .gn (gUd oX), .rw (.slice ra l.length rk) l.length 11 l.flatten, .gn (gUl (.slice xa X.length xk) X)] _) := Lib.hid (Env.freezeU (A := [(w1.heap.size, 25, [.slice oa oX.length ok]), (w.heap.size + 1, 25, [.slice none 0 0]), (w.heap.size, 25, [.slice xa X.length xk])]) (sg := os) (EL.out.cast (by simp)) oO.out 0 rfl)
        go_wp2_with fail
        have E6 : Hid (Env D w [(w1.heap.size, 25, [.slice oa oX.length ok]), (w.heap.size + 1, 25, [.slice none 0 0]), (w.heap.size, 25, [.slice xa X.length xk])] [.gn (gUl (.slice oa oX.length ok) oX), .gn (gUd oX), .rw (.slice ra l.length rk) l.length 11 l.flatten, .gn (gUl (.slice xa X.length xk) X)] (wr.drew)) := Lib.hid E5.out.drew
        clear c1_0 E5
        refine wp_regionU (S := fun w' => w'.cell? ⟨w1.heap.size, 0, none⟩ = some (.slice oa oX.length ok) ∧ w'.cell? ⟨w.heap.size, 0, none⟩ = some (.slice xa X.length xk)) [] (by kernel_rfl) (⟨((E6.out.bx 0 rfl).cell 0 rfl), ((E6.out.bx 2 rfl).cell 0 rfl)⟩) (fun hHeld => ?_)
        generalize wr.drew = w2 at *
        refine uTake (i := 0) (some 55) (v := ?_) rfl rfl (by kernel_rfl) (by kernel_rfl) (by kernel_rfl) (by kernel_rfl) (fun _ _ _ h => h) (by rfl) (by assumption) ?_ ?_
        rotate_left
        · (intro wS hSw; (try dsimp only at hSw); go_simp; try with_reducible rfl)
        try simp only [Act.put, List.setIfInBounds_toArray, List.set_cons_zero, List.set_cons_succ]
        refine uTake (i := 1) (some 56) (v := ?_) rfl rfl (by kernel_rfl) (by kernel_rfl) (by kernel_rfl) (by kernel_rfl) (fun _ _ _ h => h) (by rfl) (by assumption) ?_ ?_
        rotate_left
        · (intro wS hSw; (try dsimp only at hSw); go_simp; try with_reducible rfl)
        try simp only [Act.put, List.setIfInBounds_toArray, List.set_cons_zero, List.set_cons_succ]
        refine uTake (i := 2) (some 57) (v := ?_) rfl rfl (by kernel_rfl) (by kernel_rfl) (by kernel_rfl) (by kernel_rfl) (fun _ _ _ h => h) (by rfl) (by assumption) ?_ ?_
        rotate_left
        · (intro wS hSw; (try dsimp only at hSw); go_simp; try with_reducible rfl)
        try simp only [Act.put, List.setIfInBounds_toArray, List.set_cons_zero, List.set_cons_succ]
        refine uTake (i := 3) (some 58) (v := ?_) rfl rfl (by kernel_rfl) (by kernel_rfl) (by kernel_rfl) (by kernel_rfl) (fun _ _ _ h => h) (by rfl) (by assumption) ?_ ?_
        rotate_left
        · (intro wS hSw; (try dsimp only at hSw); go_simp; try with_reducible rfl)
        try simp only [Act.put, List.setIfInBounds_toArray, List.set_cons_zero, List.set_cons_succ]
        refine uTake (i := 4) (some 59) (v := ?_) rfl rfl (by kernel_rfl) (by kernel_rfl) (by kernel_rfl) (by kernel_rfl) (fun _ _ _ h => h) (by rfl) (by assumption) ?_ ?_
        rotate_left
        · (intro wS hSw; (try dsimp only at hSw); go_simp; try with_reducible rfl)
        try simp only [Act.put, List.setIfInBounds_toArray, List.set_cons_zero, List.set_cons_succ]
        refine uTake (i := 5) (some 60) (v := ?_) rfl rfl (by kernel_rfl) (by kernel_rfl) (by kernel_rfl) (by kernel_rfl) (fun _ _ _ h => h) (by rfl) (by assumption) ?_ ?_
        rotate_left
        · (intro wS hSw; (try dsimp only at hSw); go_simp; try with_reducible rfl)
        try simp only [Act.put, List.setIfInBounds_toArray, List.set_cons_zero, List.set_cons_succ]
        refine uTake (i := 6) (some 61) (v := ?_) rfl rfl (by kernel_rfl) (by kernel_rfl) (by kernel_rfl) (by kernel_rfl) (fun _ _ _ h => h) (by rfl) (by assumption) ?_ ?_
        rotate_left
        · (intro wS hSw; (try dsimp only at hSw); go_simp; try with_reducible rfl)
        try simp only [Act.put, List.setIfInBounds_toArray, List.set_cons_zero, List.set_cons_succ]
        refine uTake (i := 7) (some 62) (v := ?_) rfl rfl (by kernel_rfl) (by kernel_rfl) (by kernel_rfl) (by kernel_rfl) (fun _ _ _ h => h) (by rfl) (by assumption) ?_ ?_
        rotate_left
        · (intro wS hSw; (try dsimp only at hSw); go_simp; try with_reducible rfl)
        try simp only [Act.put, List.setIfInBounds_toArray, List.set_cons_zero, List.set_cons_succ]
        have b2 := E6.out.bx 1 rfl
        have c2_0 := b2.cell 0 rfl
        have f2_0 := b2.frozen 0
        clear b2
        refine uReady (rs := [8]) (by kernel_rfl) (by simp) ?_
        refine ReadyU.cons rfl (fun KK hKK => ?_) ReadyU.nil
        go_simp
        have E7 : Hid (Env D w [(w1.heap.size, 25, [.slice oa oX.length ok]), (w.heap.size + 1, 25, [.slice oa oX.length ok]), (w.heap.size, 25, [.slice xa X.length xk])] [.gn (gUl (.slice oa oX.length ok) oX), .gn (gUd oX), .rw (.slice ra l.length rk) l.length 11 l.flatten, .gn (gUl (.slice xa X.length xk) X)] _) := Lib.hid ((E6.out.set 1 0 (.slice oa oX.length ok) rfl))
        (try dsimp only)
        clear hHeld
        refine hKK.out _ _ (⟨((E7.out.bx 0 rfl).cell 0 rfl), ((E7.out.bx 2 rfl).cell 0 rfl)⟩) (fun hHeld => ?_)
        clear hKK KK
        try simp only [Act.put, List.setIfInBounds_toArray, List.set_cons_zero, List.set_cons_succ]
        refine uTake (i := 9) (some 7) (v := ?_) rfl rfl (by kernel_rfl) (by kernel_rfl) (by kernel_rfl) (by kernel_rfl) (fun _ _ _ h => h) (by rfl) (by assumption) ?_ ?_
        rotate_left
        · (intro wS hSw; (try dsimp only at hSw); go_simp; try with_reducible rfl)
        try simp only [Act.put, List.setIfInBounds_toArray, List.set_cons_zero, List.set_cons_succ]
        refine uTake (i := 10) (some 8) (v := ?_) rfl rfl (by kernel_rfl) (by kernel_rfl) (by kernel_rfl) (by kernel_rfl) (fun _ _ _ h => h) (by rfl) (by assumption) ?_ ?_
        rotate_left
        · (intro wS hSw; (try dsimp only at hSw); go_simp; try with_reducible rfl)
        try simp only [Act.put, List.setIfInBounds_toArray, List.set_cons_zero, List.set_cons_succ]
        refine uDone (by kernel_rfl) ?_ _
        go_wp2_with fail
        have HRO : Hid ((gUl (.slice oa oX.length ok) oX).at_ _ (fun b => D b ∨ w.heap.size ≤ b)) := Lib.hid (E7.out.out 0 rfl)
        have b3 := E7.out.bx 1 rfl
        have c3_0 := b3.cell 0 rfl
        clear b3
        go_wp2
        have hfin := E7.out
        have q4 := (hfin.bx 1 rfl).cell 0 rfl
        exact bodyPost_ret (v := (.tuple #[.agg #[.slice oa oX.length ok], .int .i64 dn, .int .i64 0])) (by simp [results, Try.results32, go_sem, q4]) rfl ⟨⟨oa, ok, oX, by rw [HR.out.2.1, HR.out.2.2], HR.out.1, HRO⟩, hfin.bel⟩
      have hk : k < X.length := lt_of hy a1
      have t6 : decide ((k : Int) < (X.length : Int)) = true := decide_eq_true (by omega)
      have t7 : decide (k < X.length) = true := decide_eq_true (by omega)
      have hkI : (k : Int) < (X.length : Int) := by omega
      clear hy
      have HOL : Hid (oX.length + 1 ≤ 1000000) := Lib.hid (by have := HOB.out; omega)
      have b1 := EL.out.bx 2 rfl
      have c1_0 := b1.cell 0 rfl
      clear b1
      go_upto_region 9 with (fail)
      obtain ⟨xab, xao, rfl⟩ := gUl.addr (EL.out.fc 2 rfl) (List.ne_nil_of_length_pos (Nat.lt_of_le_of_lt (Nat.zero_le _) hk))
      obtain ⟨e, ee⟩ : ∃ x, X[k] = x := ⟨_, rfl⟩
      have eE := Lib.hid ee
      clear ee
      have E5 : Hid (Env D w ((w1.heap.size, 25, [.slice oa oX.length ok]) :: (w.heap.size + 1, 25, [.slice none 0 0]) :: (w.heap.size, 25, [.slice (some ⟨xab, xao, none⟩) X.length xk]) :: os) [.gn (gRg xab (xao + k * 83) (usc e.u e.la e.pa)), .gn (gSp e.u.sp e.la e.pa), .gn (gUd oX), .rw (.slice ra l.length rk) l.length 11 l.flatten, .gn (gUl (.slice (some ⟨xab, xao, none⟩) X.length xk) X)] _) := Lib.hid (EL.out.elU 2 rfl hk eE.out)
      clear EL
      have eS := Lib.hid (E5.out.spOk 1 rfl)
      have eN : Hid (∀ v ∈ usc e.u e.la e.pa, v.oneCell' = true) := Lib.hid (usc_one eS.out (Rw.oneV (E5.out.fc 1 rfl).2.1) (Rw.oneV (E5.out.fc 1 rfl).2.2))
      have HU : Hid ((X.map Uv.u)[k]? = some e.u) := Lib.hid (map_get hk eE.out)
      have HBE : Hid (e.u.sp.lv.length ≤ 1000000 ∧ e.u.sp.pa.length ≤ 1000000) := Lib.hid (hb.out e (by rw [← eE.out]; exact List.getElem_mem hk))
      obtain ⟨ex, hex⟩ : ∃ ex, expT l e.u.sp.cn now = ex := ⟨_, rfl⟩
      have HEX := Lib.hid hex
      clear hex
      cases ex with
      | true =>
        have b2 := E5.out.bx 2 rfl
        have c2_0 := b2.cell 0 rfl
        clear b2
        have r3 := Lib.hid (gRg.sub (i := 2) (E5.out.fc 0 rfl).2 (usc_cn eS.out _ _))
        go_wp2_with (first | (with_reducible refine wpl_load_w wCoin xab (xao + k * 83 + 2) ?_ ?_ e.u.sp.cn eS.out.cn r3.out ?_; (· exact ⟨_, rfl, rfl⟩); (· kernel_rfl)))
        refine (rexpired_c l e.u.sp.cn now (E5.out.fc 3 rfl) hok.out eS.out.cn HL9.out (t := true) HEX.out).mono ?_
        rintro e w2 ⟨rfl, hb⟩
        have E6 : Hid (Env D w ((w1.heap.size, 25, [.slice oa oX.length ok]) :: (w.heap.size + 1, 25, [.slice none 0 0]) :: (w.heap.size, 25, [.slice (some ⟨xab, xao, none⟩) X.length xk]) :: os) [.gn (gRg xab (xao + k * 83) (usc e.u e.la e.pa)), .gn (gSp e.u.sp e.la e.pa), .gn (gUd oX), .rw (.slice ra l.length rk) l.length 11 l.flatten, .gn (gUl (.slice (some ⟨xab, xao, none⟩) X.length xk) X)] w2) := Lib.hid (E5.out.below hb)
        clear c1_0 c2_0 r3 E5 hb
        have HX2 : Hid (oX.map Uv.u = keepN ((X.map Uv.u).take (k + 1)) l now) := Lib.hid (by rw [keepN_take HU.out, if_pos HEX.out]; exact HX.out)
        have hZ := E6.out
        have EZ : Hid (Env D w ((w1.heap.size, 25, [.slice oa oX.length ok]) :: (w.heap.size + 1, 25, [.slice none 0 0]) :: (w.heap.size, 25, [.slice (some ⟨xab, xao, none⟩) X.length xk]) :: os) [.gn (gUd oX), .rw (.slice ra l.length rk) l.length 11 l.flatten, .gn (gUl (.slice (some ⟨xab, xao, none⟩) X.length xk) X)] _) := Lib.hid ⟨hZ.bel, hZ.box, ⟨hZ.fc 2 rfl, ⟨hZ.fc 3 rfl, ⟨hZ.fc 4 rfl, trivial⟩⟩⟩⟩
        clear hZ
        go_wp2
        go_roundg (X.length - (k + 1))
        case rel => exact ⟨k + 1, os, oc, _, _, oX, rfl, Lib.hid (EZ.out.cast (by simp)), oO, Lib.hid ⟨⟨by omega, rfl⟩, HX2.out⟩⟩
        case measure => exact by omega
      | false =>
        have b2 := E5.out.bx 2 rfl
        have c2_0 := b2.cell 0 rfl
        clear b2
        have r3 := Lib.hid (gRg.sub (i := 2) (E5.out.fc 0 rfl).2 (usc_cn eS.out _ _))
        go_wp2_with (first | (with_reducible refine wpl_load_w wCoin xab (xao + k * 83 + 2) ?_ ?_ e.u.sp.cn eS.out.cn r3.out ?_; (· exact ⟨_, rfl, rfl⟩); (· kernel_rfl)))
        refine (rexpired_c l e.u.sp.cn now (E5.out.fc 3 rfl) hok.out eS.out.cn HL9.out (t := false) HEX.out).mono ?_
        rintro e w2 ⟨rfl, hb⟩
        have E6 : Hid (Env D w ((w1.heap.size, 25, [.slice oa oX.length ok]) :: (w.heap.size + 1, 25, [.slice none 0 0]) :: (w.heap.size, 25, [.slice (some ⟨xab, xao, none⟩) X.length xk]) :: os) [.gn (gRg xab (xao + k * 83) (usc e.u e.la e.pa)), .gn (gSp e.u.sp e.la e.pa), .gn (gUd oX), .rw (.slice ra l.length rk) l.length 11 l.flatten, .gn (gUl (.slice (some ⟨xab, xao, none⟩) X.length xk) X)] w2) := Lib.hid (E5.out.below hb)
        clear c1_0 c2_0 r3 E5 hb
        go_upto_region 10 with (fail)
        go_wp2_with fail
        have E7 : Hid (Env D w ((w1.heap.size, 25, [.slice oa oX.length ok]) :: (w.heap.size + 1, 25, [.slice none 0 0]) :: (w.heap.size, 25, [.slice (some ⟨xab, xao, none⟩) X.length xk]) :: os) [.gn (gRg xab (xao + k * 83) (usc e.u e.la e.pa)), .gn (gSp e.u.sp e.la e.pa), .gn (gUd oX), .rw (.slice ra l.length rk) l.length 11 l.flatten, .gn (gUl (.slice (some ⟨xab, xao, none⟩) X.length xk) X)] (w2.drew)) := Lib.hid E6.out.drew
        clear E6
        refine wp_regionU (S := fun w' => w'.cell? ⟨w1.heap.size, 0, none⟩ = some (.slice oa oX.length ok) ∧ w'.cell? ⟨w.heap.size, 0, none⟩ = some (.slice (some ⟨xab, xao, none⟩) X.length xk) ∧ w'.rangeAt xab (xao + k * 83) (usc e.u e.la e.pa)) [10] (by kernel_rfl) (⟨((E7.out.bx 0 rfl).cell 0 rfl), ((E7.out.bx 2 rfl).cell 0 rfl), (E7.out.fc 0 rfl).2⟩) (fun hHeld => ?_)
        generalize w2.drew = w3 at *
        refine uTake (i := 0) (some 45) (v := ?_) rfl rfl (by kernel_rfl) (by kernel_rfl) (by kernel_rfl) (by kernel_rfl) (fun _ _ _ h => h) (by rfl) (by assumption) ?_ ?_
        rotate_left
        · (intro wS hSw; (try dsimp only at hSw); go_simp; try with_reducible rfl)
        try simp only [Act.put, List.setIfInBounds_toArray, List.set_cons_zero, List.set_cons_succ]
        refine uTake (i := 1) (some 46) (v := ?_) rfl rfl (by kernel_rfl) (by kernel_rfl) (by kernel_rfl) (by kernel_rfl) (fun _ _ _ h => h) (by rfl) (by assumption) ?_ ?_
        rotate_left
        · (intro wS hSw; (try dsimp only at hSw); go_simp; try with_reducible rfl)
        try simp only [Act.put, List.setIfInBounds_toArray, List.set_cons_zero, List.set_cons_succ]
        refine uTake (i := 2) (some 47) (v := ?_) rfl rfl (by kernel_rfl) (by kernel_rfl) (by kernel_rfl) (by kernel_rfl) (fun _ _ _ h => h) (by rfl) (by assumption) ?_ ?_
        rotate_left
        · (intro wS hSw; (try dsimp only at hSw); go_simp; try with_reducible rfl)
        try simp only [Act.put, List.setIfInBounds_toArray, List.set_cons_zero, List.set_cons_succ]
        refine uTake (i := 3) (some 48) (v := ?_) rfl rfl (by kernel_rfl) (by kernel_rfl) (by kernel_rfl) (by kernel_rfl) (fun _ _ _ h => h) (by rfl) (by assumption) ?_ ?_
        rotate_left
        · (intro wS hSw; (try dsimp only at hSw); go_simp; try with_reducible rfl)
        try simp only [Act.put, List.setIfInBounds_toArray, List.set_cons_zero, List.set_cons_succ]
        refine uTake (i := 4) (some 49) (v := ?_) rfl rfl (by kernel_rfl) (by kernel_rfl) (by kernel_rfl) (by kernel_rfl) (fun _ _ _ h => h) (by rfl) (by assumption) ?_ ?_
        rotate_left
        · (intro wS hSw; (try dsimp only at hSw); go_simp; try with_reducible rfl)
        try simp only [Act.put, List.setIfInBounds_toArray, List.set_cons_zero, List.set_cons_succ]
        refine uTake (i := 5) (some 50) (v := ?_) rfl rfl (by kernel_rfl) (by kernel_rfl) (by kernel_rfl) (by kernel_rfl) (fun _ _ _ h => h) (by rfl) (by assumption) ?_ ?_
        rotate_left
        · (intro wS hSw; (try dsimp only at hSw); go_simp; try with_reducible rfl)
        try simp only [Act.put, List.setIfInBounds_toArray, List.set_cons_zero, List.set_cons_succ]
        refine uTake (i := 6) (some 51) (v := .agg (usc e.u e.la e.pa).toArray) rfl rfl (by kernel_rfl) (by kernel_rfl) (by kernel_rfl) (by kernel_rfl) (fun _ _ _ h => h) (by rfl) (by assumption) ?_ ?_
        · (intro wS hSw; (try dsimp only at hSw); revert hSw; (try simp only [and_imp]); intros; exact exec_load_b bUse _ rfl xab (xao + k * 83) rfl (usc e.u e.la e.pa) (usc_len eS.out _ _) (by assumption))
        try simp only [Act.put, List.setIfInBounds_toArray, List.set_cons_zero, List.set_cons_succ]
        refine uReady (rs := [7]) (by kernel_rfl) (by simp) ?_
        refine ReadyU.cons rfl (fun KK hKK => ?_) ReadyU.nil
        refine op_slice1 (some 52) rfl rfl (.tmp 51) rfl (usc e.u e.la e.pa) (usc_len eS.out _ _) (by simp [Act.eval, Act.put]; done) ?_
        have E8 : Hid (Env D w ((w3.heap.size, 44, usc e.u e.la e.pa) :: (w1.heap.size, 25, [.slice oa oX.length ok]) :: (w.heap.size + 1, 25, [.slice none 0 0]) :: (w.heap.size, 25, [.slice (some ⟨xab, xao, none⟩) X.length xk]) :: os) [.gn (gRg xab (xao + k * 83) (usc e.u e.la e.pa)), .gn (gSp e.u.sp e.la e.pa), .gn (gUd oX), .rw (.slice ra l.length rk) l.length 11 l.flatten, .gn (gUl (.slice (some ⟨xab, xao, none⟩) X.length xk) X)] _) := Lib.hid ((E7.out.push 44 (usc e.u e.la e.pa) (w3.heap.size) (by simp)))
        (try dsimp only)
        clear hHeld
        refine hKK.out _ _ (⟨((E8.out.bx 1 rfl).cell 0 rfl), ((E8.out.bx 3 rfl).cell 0 rfl), (E8.out.fc 0 rfl).2⟩) (fun hHeld => ?_)
        clear hKK KK
        try simp only [Act.put, List.setIfInBounds_toArray, List.set_cons_zero, List.set_cons_succ]
        clear E7
        generalize w3.alloc (.cells (usc e.u e.la e.pa).toArray 44) = w4 at *
        refine uReady (rs := [8]) (by kernel_rfl) (by simp) ?_
        refine ReadyU.cons rfl (fun KK hKK => ?_) ReadyU.nil
        refine op_app1 (c := 1) tiUse (some 53) rfl rfl (.tmp 46) (.tmp 52) rfl E8.out (A := [(w3.heap.size, 44, usc e.u e.la e.pa), (w1.heap.size, 25, [.slice oa oX.length ok]), (w.heap.size + 1, 25, [.slice none 0 0]), (w.heap.size, 25, [.slice (some ⟨xab, xao, none⟩) X.length xk])]) (sg := os) (B' := []) (F := ((w3.heap.size, 44, usc e.u e.la e.pa) :: (w1.heap.size, 25, [.slice oa oX.length ok]) :: (w.heap.size + 1, 25, [.slice none 0 0]) :: (w.heap.size, 25, [.slice (some ⟨xab, xao, none⟩) X.length xk]) :: os)) (by simp) (oO.out.os rfl) (by simp [Act.eval, Act.put]) (by simp [Act.eval, Act.put]; done) (SrcN.box (m := 1) (E8.out.bx 0 rfl) (usc_len eS.out _ _) eN.out) HOL.out ?_
        intro zg zp zc w5 zH zT zE
        have zO := Lib.hid (OU.app (x := Uv.mk e.u e.la e.pa) (g' := zg) (cs' := zc) (cap' := zp) oO.out rfl zH.out zT.out)
        have E9 : Hid (Env D w ((w3.heap.size, 44, usc e.u e.la e.pa) :: (w1.heap.size, 25, [.slice oa oX.length ok]) :: (w.heap.size + 1, 25, [.slice none 0 0]) :: (w.heap.size, 25, [.slice (some ⟨xab, xao, none⟩) X.length xk]) :: [(zg, 44, zc)]) [.gn (gUd (oX ++ [Uv.mk e.u e.la e.pa])), .gn (gRg xab (xao + k * 83) (usc e.u e.la e.pa)), .gn (gSp e.u.sp e.la e.pa), .gn (gUd oX), .rw (.slice ra l.length rk) l.length 11 l.flatten, .gn (gUl (.slice (some ⟨xab, xao, none⟩) X.length xk) X)] w5) := Lib.hid ((zE.out.note (.gn (gUd (oX ++ [Uv.mk e.u e.la e.pa]))) (gUd.app (x := Uv.mk e.u e.la e.pa) (zE.out.fc 2 rfl) (zE.out.fc 1 rfl))).cast (by simp))
        clear E8 zE zH zT oO
        (try dsimp only)
        clear hHeld
        refine hKK.out _ _ (⟨((E9.out.bx 1 rfl).cell 0 rfl), ((E9.out.bx 3 rfl).cell 0 rfl), (E9.out.fc 1 rfl).2⟩) (fun hHeld => ?_)
        clear hKK KK
        try simp only [Act.put, List.setIfInBounds_toArray, List.set_cons_zero, List.set_cons_succ]
        refine uTake (i := 9) (some 54) (v := ?_) rfl rfl (by kernel_rfl) (by kernel_rfl) (by kernel_rfl) (by kernel_rfl) (fun _ _ _ h => h) (by rfl) (by assumption) ?_ ?_
        rotate_left
        · (intro wS hSw; (try dsimp only at hSw); go_simp; try with_reducible rfl)
        try simp only [Act.put, List.setIfInBounds_toArray, List.set_cons_zero, List.set_cons_succ]
        have b4 := E9.out.bx 1 rfl
        have c4_0 := b4.cell 0 rfl
        have f4_0 := b4.frozen 0
        clear b4
        refine uReady (rs := [10]) (by kernel_rfl) (by simp) ?_
        refine ReadyU.consU (by kernel_rfl) rfl (fun KK hKK => ?_) ReadyU.nil
        go_simp
        have E10 : Hid (Env D w ((w3.heap.size, 44, usc e.u e.la e.pa) :: (w1.heap.size, 25, [.slice (some ⟨zg, 0, none⟩) (oX.length + 1) zp]) :: (w.heap.size + 1, 25, [.slice none 0 0]) :: (w.heap.size, 25, [.slice (some ⟨xab, xao, none⟩) X.length xk]) :: [(zg, 44, zc)]) [.gn (gUd (oX ++ [Uv.mk e.u e.la e.pa])), .gn (gRg xab (xao + k * 83) (usc e.u e.la e.pa)), .gn (gSp e.u.sp e.la e.pa), .gn (gUd oX), .rw (.slice ra l.length rk) l.length 11 l.flatten, .gn (gUl (.slice (some ⟨xab, xao, none⟩) X.length xk) X)] _) := Lib.hid ((E9.out.set 1 0 (.slice (some ⟨zg, 0, none⟩) (oX.length + 1) zp) rfl))
        (try dsimp only)
        (try clear hHeld)
        refine hKK.out _ _ ?_
        clear hKK KK
        try simp only [Act.put, List.setIfInBounds_toArray, List.set_cons_zero, List.set_cons_succ]
        refine uDone (by kernel_rfl) ?_ _
        have HX2 : Hid ((oX ++ [Uv.mk e.u e.la e.pa]).map Uv.u = keepN ((X.map Uv.u).take (k + 1)) l now) := Lib.hid (by rw [keepN_take HU.out, if_neg (by rw [HEX.out]; simp), List.map_append, HX.out]; rfl)
        have hZ := (E10.out.drop)
        have EZ : Hid (Env D w ((w1.heap.size, 25, [.slice (some ⟨zg, 0, none⟩) (oX.length + 1) zp]) :: (w.heap.size + 1, 25, [.slice none 0 0]) :: (w.heap.size, 25, [.slice (some ⟨xab, xao, none⟩) X.length xk]) :: [(zg, 44, zc)]) [.gn (gUd (oX ++ [Uv.mk e.u e.la e.pa])), .rw (.slice ra l.length rk) l.length 11 l.flatten, .gn (gUl (.slice (some ⟨xab, xao, none⟩) X.length xk) X)] _) := Lib.hid ⟨hZ.bel, hZ.box, ⟨hZ.fc 0 rfl, ⟨hZ.fc 4 rfl, ⟨hZ.fc 5 rfl, trivial⟩⟩⟩⟩
        clear hZ
        go_wp2
        go_roundg (X.length - (k + 1))
        case rel => exact ⟨k + 1, [(zg, 44, zc)], zc, (some ⟨zg, 0, none⟩), zp, oX ++ [Uv.mk e.u e.la e.pa], rfl, Lib.hid (EZ.out.cast (by simp)), (OU.len' zO), Lib.hid ⟨⟨by omega, rfl⟩, HX2.out⟩⟩
        case measure => exact by omega
end Go.Proofs.Ytfnnfmefihiefaa

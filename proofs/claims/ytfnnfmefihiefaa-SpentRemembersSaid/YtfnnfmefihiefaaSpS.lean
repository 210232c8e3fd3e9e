/- Put. -/
import Derived.Test.YtfnnfmefihiefaaSpR
namespace Go.Proofs.Ytfnnfmefihiefaa
open Go.RowKit
set_option linter.unusedVariables false
set_option linter.unusedSimpArgs false
section
variable {sg : List Bx} {cs : List Value} {X : List Uv} {a : Option Addr} {n c : Nat}
theorem OU.hd (h : OU sg cs (.slice a n c) X) (hx : 0 < X.length) : ∃ g, a = some ⟨g, 0, none⟩ := by
  rcases h.1 with ⟨_, _, _, h0⟩ | ⟨g, cap, _, e, _⟩
  · omega
  · cases e; exact ⟨g, rfl⟩
theorem gUl.el {W : World} {D : Nat → Prop} {b : Nat} (h : (gUl (.slice (some ⟨b, 0, none⟩) n c) X).at_ W D) {k : Nat} (hk : k < X.length) {x : Uv} (hx : X[k] = x) : W.rangeAt b (k * 83) (uvc x) := by
  have hr := h.1
  have hn : n = X.length := by obtain ⟨_, _, h1, _⟩ := hr; simp only [Value.slice.injEq] at h1; exact h1.2.1
  subst hn
  have hw := Rw.whole (L := X.map uvc) hr (by simp) (gUd.len h.2) (k := k) (by simpa using hk)
  rw [List.getElem_map, hx, Nat.zero_add] at hw
  exact hw
theorem gUd.at' {W : World} {D : Nat → Prop} (h : (gUd X).at_ W D) {k : Nat} (hk : k < X.length) {x : Uv} (hx : X[k] = x) : (gSp x.u.sp x.la x.pa).at_ W D := h x (by rw [← hx]; exact List.getElem_mem hk)
theorem OU.vali {g i c : Nat} {X : List Uv} {x : Uv} (hi : i ≤ X.length) : Value.slice (some ⟨g, 0, none⟩) (X.length + 1) c = .slice (some ⟨g, 0, none⟩) (insU X i x).length c := by rw [insU_length _ _ _ hi]
theorem OU.leni {g i : Nat} {x : Uv} (hi : i ≤ X.length) (h : Hid (OU sg cs (.slice (some ⟨g, 0, none⟩) (X.length + 1) c) (insU X i x))) : Hid (OU sg cs (.slice (some ⟨g, 0, none⟩) (insU X i x).length c) (insU X i x)) := by rw [insU_length _ _ _ hi]; exact h
end
theorem wpl_use4 {ops : Array Oper} {rest : List Oper} {op : Oper} {a : Act} {w : World} {Q : Exit → Act → World → Prop} {u : Us} {A B K : Int} {s : Sp} {la pa : Value} (hu : u = ⟨A, B, s, K⟩) (h : SpOk s) (hg : op.guard = none)
    (hx : ∃ x y z q, op.op = .build 44 #[(0, x), (1, y), (2, z), (3, q)] ∧ a.eval x = .int .i64 A ∧ a.eval y = .int .i64 B ∧ a.eval z = .agg (spc s la pa).toArray ∧ a.eval q = .int .i64 K)
    (hn : wpList Try.prog ops Q rest (a.put op.dst (.agg (usc u la pa).toArray)) w) : wpList Try.prog ops Q (op :: rest) a w := by
  obtain ⟨x, y, z, q, ho, h1, h2, h3, h4⟩ := hx
  subst hu
  exact wpl_build_b hg _ ho [(0, .int .i64 A), (1, .int .i64 B), (2, .agg (spc s la pa).toArray), (3, .int .i64 K)] (by simp [h1, h2, h3, h4]) _ (built_use4 h A B K la pa) hn
theorem RetTCE.fail {D : Nat → Prop} {L C : List Us} {n m : Int} {W : World} (h : L = [] ∧ C = [] ∧ n = m) : RetTCE D L C n (.returned (.tuple #[.agg #[.slice none 0 0], .slice none 0 0, .int .i64 m])) W := by
  obtain ⟨rfl, rfl, rfl⟩ := h
  exact ⟨_, [], _, [], rfl, rfl, rfl, Lib.hid (gUl.nil _ _), Lib.hid (gUl.nil _ _)⟩
set_option maxRecDepth 100000 in
set_option maxHeartbeats 8000000 in
theorem put_c {D : Nat → Prop} (X : List Uv) (s : Sp) {ta : Option Addr} {tk : Nat} {za zb : Value} {w : World} (hx : Fct.at w D (.gn (gUl (.slice ta X.length tk) X))) (hs : Fct.at w D (.gn (gSp s za zb))) (hb0 : ∀ x ∈ X, x.u.sp.lv.length ≤ 1000000 ∧ x.u.sp.pa.length ≤ 1000000) (fs0 : s.lv.length ≤ 1000000 ∧ s.pa.length ≤ 1000000) (hm0 : X.length ≤ 100000) {L C : List Us} {n : Int} (hr0 : putRes (X.map Uv.u) s = (L, C, n)) :
    Calls Try.prog 10 #[.agg #[.slice ta X.length tk], .agg (spc s za zb).toArray] w fun e w' => RetTCE (fun b => D b ∨ w.heap.size ≤ b) L C n e w' ∧ Below w.heap.size w w' := by
  have E0 : Hid (Env D w [] [.gn (gSp s za zb), .gn (gUl (.slice ta X.length tk) X)] w) := Lib.hid (((Env.start D w).arg (.gn (gUl (.slice ta X.length tk) X)) hx).arg (.gn (gSp s za zb)) hs)
  clear hx hs
  go_enter Try.func10, Try.ntmps10
  have hb := Lib.hid hb0
  have fs := Lib.hid fs0
  have hm := Lib.hid hm0
  have hr := Lib.hid hr0
  clear hb0 fs0 hm0 hr0
  have HL : Hid ((X.map Uv.u).length = X.length) := Lib.hid (List.length_map ..)
  have hm9 := hm.out
  have HS := Lib.hid (E0.out.spOk 0 rfl)
  obtain ⟨xa, xk, xc, xj, rfl, rfl, E10⟩ := E0.out.elS 0 rfl
  have E1 : Hid (Env D w [] [.rw (.slice xa s.lv.length xk) s.lv.length 3 (lcl s.lv), .rw (.slice xc s.pa.length xj) s.pa.length 32 s.pa.flatten, .gn (gSp s (.slice xa s.lv.length xk) (.slice xc s.pa.length xj)), .gn (gUl (.slice ta X.length tk) X)] _) := Lib.hid E10
  clear E10 E0
  obtain ⟨v1, v1h⟩ : ∃ b : Bool, b = true ↔ ValidT (X.map Uv.u) := by by_cases h : ValidT (X.map Uv.u); (· exact ⟨true, ⟨fun _ => h, fun _ => rfl⟩⟩); exact ⟨false, ⟨fun h2 => Bool.noConfusion h2, fun h2 => absurd h2 h⟩⟩
  have v1H := Lib.hid v1h
  clear v1h
  obtain ⟨v2, v2h⟩ : ∃ b : Bool, b = true ↔ StOk s := by by_cases h : StOk s; (· exact ⟨true, ⟨fun _ => h, fun _ => rfl⟩⟩); exact ⟨false, ⟨fun h2 => Bool.noConfusion h2, fun h2 => absurd h2 h⟩⟩
  have v2H := Lib.hid v2h
  clear v2h
  cases v1 with
  | false =>
    go_wp2_with fail
    have E2 : Hid (Env D w [(w.heap.size + 1 + 1, 25, [.slice none 0 0]), (w.heap.size + 1, 41, spc s (.slice xa s.lv.length xk) (.slice xc s.pa.length xj)), (w.heap.size, 25, [.slice ta X.length tk])] [.rw (.slice xa s.lv.length xk) s.lv.length 3 (lcl s.lv), .rw (.slice xc s.pa.length xj) s.pa.length 32 s.pa.flatten, .gn (gSp s (.slice xa s.lv.length xk) (.slice xc s.pa.length xj)), .gn (gUl (.slice ta X.length tk) X)] _) := Lib.hid ((((E1.out.push 25 [.slice ta X.length tk] (w.heap.size) (by simp)).push 41 (spc s (.slice xa s.lv.length xk) (.slice xc s.pa.length xj)) (w.heap.size + 1) (by simp)).push 25 [.slice none 0 0] (w.heap.size + 1 + 1) (by simp)))
    refine (valid_c X (E2.out.fc 3 rfl) hb.out (t := false) (by first | exact v1H.out | simpa using v1H.out) (by omega)).mono ?_
    rintro e w1 ⟨rfl, hb⟩
    have E3 : Hid (Env D w [(w.heap.size + 1 + 1, 25, [.slice none 0 0]), (w.heap.size + 1, 41, spc s (.slice xa s.lv.length xk) (.slice xc s.pa.length xj)), (w.heap.size, 25, [.slice ta X.length tk])] [.rw (.slice xa s.lv.length xk) s.lv.length 3 (lcl s.lv), .rw (.slice xc s.pa.length xj) s.pa.length 32 s.pa.flatten, .gn (gSp s (.slice xa s.lv.length xk) (.slice xc s.pa.length xj)), .gn (gUl (.slice ta X.length tk) X)] w1) := Lib.hid (E2.out.below hb)
    clear E1 E2 hb
    go_wp2_with fail
    refine (fail_c 1 (D := fun _ => True)).mono ?_
    rintro e w2 ⟨rfl, hb⟩
    have E4 : Hid (Env D w [(w.heap.size + 1 + 1, 25, [.slice none 0 0]), (w.heap.size + 1, 41, spc s (.slice xa s.lv.length xk) (.slice xc s.pa.length xj)), (w.heap.size, 25, [.slice ta X.length tk])] [.rw (.slice xa s.lv.length xk) s.lv.length 3 (lcl s.lv), .rw (.slice xc s.pa.length xj) s.pa.length 32 s.pa.flatten, .gn (gSp s (.slice xa s.lv.length xk) (.slice xc s.pa.length xj)), .gn (gUl (.slice ta X.length tk) X)] w2) := Lib.hid (E3.out.below hb)
    clear E3 hb
    have b1 := E4.out.bx 0 rfl
    have c1_0 := b1.cell 0 rfl
    have f1_0 := b1.frozen 0
    clear b1
    have HR := Lib.hid (by have h := hr.out; rw [putRes_bad (.inl (by simpa using v1H.out))] at h; simpa [eq_comm] using h : L = [] ∧ C = [] ∧ n = 1)
    go_wp2
    have E5 : Hid (Env D w [(w.heap.size + 1 + 1, 25, [.slice none 0 0]), (w.heap.size + 1, 41, spc s (.slice xa s.lv.length xk) (.slice xc s.pa.length xj)), (w.heap.size, 25, [.slice ta X.length tk])] [.rw (.slice xa s.lv.length xk) s.lv.length 3 (lcl s.lv), .rw (.slice xc s.pa.length xj) s.pa.length 32 s.pa.flatten, .gn (gSp s (.slice xa s.lv.length xk) (.slice xc s.pa.length xj)), .gn (gUl (.slice ta X.length tk) X)] _) := Lib.hid ((E4.out.set 0 0 (.slice none 0 0) rfl))
    have hfin := E5.out
    have q2 := (hfin.bx 0 rfl).cell 0 rfl
    exact bodyPost_ret (v := (.tuple #[.agg #[.slice none 0 0], .slice none 0 0, .int .i64 1])) (by simp [results, Try.results10, go_sem, q2]) rfl ⟨RetTCE.fail HR.out, hfin.bel⟩
  | true =>
    cases v2 with
    | false =>
      go_wp2_with fail
      have E2 : Hid (Env D w [(w.heap.size + 1 + 1, 25, [.slice none 0 0]), (w.heap.size + 1, 41, spc s (.slice xa s.lv.length xk) (.slice xc s.pa.length xj)), (w.heap.size, 25, [.slice ta X.length tk])] [.rw (.slice xa s.lv.length xk) s.lv.length 3 (lcl s.lv), .rw (.slice xc s.pa.length xj) s.pa.length 32 s.pa.flatten, .gn (gSp s (.slice xa s.lv.length xk) (.slice xc s.pa.length xj)), .gn (gUl (.slice ta X.length tk) X)] _) := Lib.hid ((((E1.out.push 25 [.slice ta X.length tk] (w.heap.size) (by simp)).push 41 (spc s (.slice xa s.lv.length xk) (.slice xc s.pa.length xj)) (w.heap.size + 1) (by simp)).push 25 [.slice none 0 0] (w.heap.size + 1 + 1) (by simp)))
      refine (valid_c X (E2.out.fc 3 rfl) hb.out (t := true) (by first | exact v1H.out | simpa using v1H.out) (by omega)).mono ?_
      rintro e w1 ⟨rfl, hb⟩
      have E3 : Hid (Env D w [(w.heap.size + 1 + 1, 25, [.slice none 0 0]), (w.heap.size + 1, 41, spc s (.slice xa s.lv.length xk) (.slice xc s.pa.length xj)), (w.heap.size, 25, [.slice ta X.length tk])] [.rw (.slice xa s.lv.length xk) s.lv.length 3 (lcl s.lv), .rw (.slice xc s.pa.length xj) s.pa.length 32 s.pa.flatten, .gn (gSp s (.slice xa s.lv.length xk) (.slice xc s.pa.length xj)), .gn (gUl (.slice ta X.length tk) X)] w1) := Lib.hid (E2.out.below hb)
      clear E1 E2 hb
      have b1 := E3.out.bx 1 rfl
      have r1 := Lib.hid (b1.range (o := 0) (fun j hj => by rw [Nat.zero_add]))
      clear b1
      go_wp2_with (first | (with_reducible refine wpl_load_b bSpend (w.heap.size + 1) 0 ?_ ?_ (spc s (.slice xa s.lv.length xk) (.slice xc s.pa.length xj)) (spc_len HS.out _ _) r1.out ?_; (· exact ⟨_, rfl, rfl⟩); (· kernel_rfl)))
      refine (storable_c s (E3.out.fc 2 rfl) fs.out (t := false) (by first | exact v2H.out | simpa using v2H.out)).mono ?_
      rintro e w2 ⟨rfl, hb⟩
      have E4 : Hid (Env D w [(w.heap.size + 1 + 1, 25, [.slice none 0 0]), (w.heap.size + 1, 41, spc s (.slice xa s.lv.length xk) (.slice xc s.pa.length xj)), (w.heap.size, 25, [.slice ta X.length tk])] [.rw (.slice xa s.lv.length xk) s.lv.length 3 (lcl s.lv), .rw (.slice xc s.pa.length xj) s.pa.length 32 s.pa.flatten, .gn (gSp s (.slice xa s.lv.length xk) (.slice xc s.pa.length xj)), .gn (gUl (.slice ta X.length tk) X)] w2) := Lib.hid (E3.out.below hb)
      clear r1 E3 hb
      go_wp2_with fail
      refine (fail_c 1 (D := fun _ => True)).mono ?_
      rintro e w3 ⟨rfl, hb⟩
      have E5 : Hid (Env D w [(w.heap.size + 1 + 1, 25, [.slice none 0 0]), (w.heap.size + 1, 41, spc s (.slice xa s.lv.length xk) (.slice xc s.pa.length xj)), (w.heap.size, 25, [.slice ta X.length tk])] [.rw (.slice xa s.lv.length xk) s.lv.length 3 (lcl s.lv), .rw (.slice xc s.pa.length xj) s.pa.length 32 s.pa.flatten, .gn (gSp s (.slice xa s.lv.length xk) (.slice xc s.pa.length xj)), .gn (gUl (.slice ta X.length tk) X)] w3) := Lib.hid (E4.out.below hb)
      clear E4 hb
      have b2 := E5.out.bx 0 rfl
      have c2_0 := b2.cell 0 rfl
      have f2_0 := b2.frozen 0
      clear b2
      have HR := Lib.hid (by have h := hr.out; rw [putRes_bad (.inr (by simpa using v2H.out))] at h; simpa [eq_comm] using h : L = [] ∧ C = [] ∧ n = 1)
      go_wp2
      have E6 : Hid (Env D w [(w.heap.size + 1 + 1, 25, [.slice none 0 0]), (w.heap.size + 1, 41, spc s (.slice xa s.lv.length xk) (.slice xc s.pa.length xj)), (w.heap.size, 25, [.slice ta X.length tk])] [.rw (.slice xa s.lv.length xk) s.lv.length 3 (lcl s.lv), .rw (.slice xc s.pa.length xj) s.pa.length 32 s.pa.flatten, .gn (gSp s (.slice xa s.lv.length xk) (.slice xc s.pa.length xj)), .gn (gUl (.slice ta X.length tk) X)] _) := Lib.hid ((E5.out.set 0 0 (.slice none 0 0) rfl))
      have hfin := E6.out
      have q3 := (hfin.bx 0 rfl).cell 0 rfl
      exact bodyPost_ret (v := (.tuple #[.agg #[.slice none 0 0], .slice none 0 0, .int .i64 1])) (by simp [results, Try.results10, go_sem, q3]) rfl ⟨RetTCE.fail HR.out, hfin.bel⟩
    | true =>
      go_wp2_with fail
      have E2 : Hid (Env D w [(w.heap.size + 1 + 1, 25, [.slice none 0 0]), (w.heap.size + 1, 41, spc s (.slice xa s.lv.length xk) (.slice xc s.pa.length xj)), (w.heap.size, 25, [.slice ta X.length tk])] [.rw (.slice xa s.lv.length xk) s.lv.length 3 (lcl s.lv), .rw (.slice xc s.pa.length xj) s.pa.length 32 s.pa.flatten, .gn (gSp s (.slice xa s.lv.length xk) (.slice xc s.pa.length xj)), .gn (gUl (.slice ta X.length tk) X)] _) := Lib.hid ((((E1.out.push 25 [.slice ta X.length tk] (w.heap.size) (by simp)).push 41 (spc s (.slice xa s.lv.length xk) (.slice xc s.pa.length xj)) (w.heap.size + 1) (by simp)).push 25 [.slice none 0 0] (w.heap.size + 1 + 1) (by simp)))
      refine (valid_c X (E2.out.fc 3 rfl) hb.out (t := true) (by first | exact v1H.out | simpa using v1H.out) (by omega)).mono ?_
      rintro e w1 ⟨rfl, hb⟩
      have E3 : Hid (Env D w [(w.heap.size + 1 + 1, 25, [.slice none 0 0]), (w.heap.size + 1, 41, spc s (.slice xa s.lv.length xk) (.slice xc s.pa.length xj)), (w.heap.size, 25, [.slice ta X.length tk])] [.rw (.slice xa s.lv.length xk) s.lv.length 3 (lcl s.lv), .rw (.slice xc s.pa.length xj) s.pa.length 32 s.pa.flatten, .gn (gSp s (.slice xa s.lv.length xk) (.slice xc s.pa.length xj)), .gn (gUl (.slice ta X.length tk) X)] w1) := Lib.hid (E2.out.below hb)
      clear E1 E2 hb
      have b1 := E3.out.bx 1 rfl
      have r1 := Lib.hid (b1.range (o := 0) (fun j hj => by rw [Nat.zero_add]))
      clear b1
      go_wp2_with (first | (with_reducible refine wpl_load_b bSpend (w.heap.size + 1) 0 ?_ ?_ (spc s (.slice xa s.lv.length xk) (.slice xc s.pa.length xj)) (spc_len HS.out _ _) r1.out ?_; (· exact ⟨_, rfl, rfl⟩); (· kernel_rfl)))
      refine (storable_c s (E3.out.fc 2 rfl) fs.out (t := true) (by first | exact v2H.out | simpa using v2H.out)).mono ?_
      rintro e w2 ⟨rfl, hb⟩
      have E4 : Hid (Env D w [(w.heap.size + 1 + 1, 25, [.slice none 0 0]), (w.heap.size + 1, 41, spc s (.slice xa s.lv.length xk) (.slice xc s.pa.length xj)), (w.heap.size, 25, [.slice ta X.length tk])] [.rw (.slice xa s.lv.length xk) s.lv.length 3 (lcl s.lv), .rw (.slice xc s.pa.length xj) s.pa.length 32 s.pa.flatten, .gn (gSp s (.slice xa s.lv.length xk) (.slice xc s.pa.length xj)), .gn (gUl (.slice ta X.length tk) X)] w2) := Lib.hid (E3.out.below hb)
      clear r1 E3 hb
      have HV : Hid (ValidT (X.map Uv.u)) := Lib.hid (v1H.out.1 (by simp))
      have HT : Hid (StOk s) := Lib.hid (v2H.out.1 (by simp))
      obtain ⟨tw, htw⟩ : ∃ tw, (X.map Uv.u).any (fun x => hasSp s x) = tw := ⟨_, rfl⟩
      have HW := Lib.hid htw
      clear htw
      have HW2 : Hid (tw = true ↔ ∃ u ∈ X.map Uv.u, u.sp = s) := Lib.hid (by rw [← HW.out, List.any_eq_true]; exact ⟨fun ⟨u, h1, h2⟩ => ⟨u, h1, hasSp_iff.1 h2⟩, fun ⟨u, h1, h2⟩ => ⟨u, h1, hasSp_iff.2 h2⟩⟩)
      cases tw with
      | true =>
        have b2 := E4.out.bx 2 rfl
        have c2_0 := b2.cell 0 rfl
        clear b2
        go_wp2_with fail
        refine (twC X s (w.heap.size + 1) (D := fun _ => True) (Fct.any (f := .gn (gUl (.slice ta X.length tk) X)) (E4.out.fc 3 rfl)) (show (gRg (w.heap.size + 1) 0 (spc s (.slice xa s.lv.length xk) (.slice xc s.pa.length xj))).at_ _ _ from ⟨⟨(E4.out.bx 1 rfl).lt, trivial⟩, (E4.out.bx 1 rfl).range (o := 0) (fun j hj => by rw [Nat.zero_add])⟩) (Fct.any (f := .gn (gSp s (.slice xa s.lv.length xk) (.slice xc s.pa.length xj))) (E4.out.fc 2 rfl)) fs.out hb.out (t := true) HW.out (by omega)).mono ?_
        rintro e w3 ⟨rfl, hb⟩
        have E5 : Hid (Env D w [(w.heap.size + 1 + 1, 25, [.slice none 0 0]), (w.heap.size + 1, 41, spc s (.slice xa s.lv.length xk) (.slice xc s.pa.length xj)), (w.heap.size, 25, [.slice ta X.length tk])] [.rw (.slice xa s.lv.length xk) s.lv.length 3 (lcl s.lv), .rw (.slice xc s.pa.length xj) s.pa.length 32 s.pa.flatten, .gn (gSp s (.slice xa s.lv.length xk) (.slice xc s.pa.length xj)), .gn (gUl (.slice ta X.length tk) X)] w3) := Lib.hid (E4.out.below hb)
        clear c2_0 E4 hb
        go_wp2_with fail
        refine (fail_c 8 (D := fun _ => True)).mono ?_
        rintro e w4 ⟨rfl, hb⟩
        have E6 : Hid (Env D w [(w.heap.size + 1 + 1, 25, [.slice none 0 0]), (w.heap.size + 1, 41, spc s (.slice xa s.lv.length xk) (.slice xc s.pa.length xj)), (w.heap.size, 25, [.slice ta X.length tk])] [.rw (.slice xa s.lv.length xk) s.lv.length 3 (lcl s.lv), .rw (.slice xc s.pa.length xj) s.pa.length 32 s.pa.flatten, .gn (gSp s (.slice xa s.lv.length xk) (.slice xc s.pa.length xj)), .gn (gUl (.slice ta X.length tk) X)] w4) := Lib.hid (E5.out.below hb)
        clear E5 hb
        have b3 := E6.out.bx 0 rfl
        have c3_0 := b3.cell 0 rfl
        have f3_0 := b3.frozen 0
        clear b3
        have HR := Lib.hid (by have h := hr.out; rw [putRes_twice HV.out HT.out (HW2.out.1 (by simp))] at h; simpa [eq_comm] using h : L = [] ∧ C = [] ∧ n = 8)
        go_wp2
        have E7 : Hid (Env D w [(w.heap.size + 1 + 1, 25, [.slice none 0 0]), (w.heap.size + 1, 41, spc s (.slice xa s.lv.length xk) (.slice xc s.pa.length xj)), (w.heap.size, 25, [.slice ta X.length tk])] [.rw (.slice xa s.lv.length xk) s.lv.length 3 (lcl s.lv), .rw (.slice xc s.pa.length xj) s.pa.length 32 s.pa.flatten, .gn (gSp s (.slice xa s.lv.length xk) (.slice xc s.pa.length xj)), .gn (gUl (.slice ta X.length tk) X)] _) := Lib.hid ((E6.out.set 0 0 (.slice none 0 0) rfl))
        have hfin := E7.out
        have q4 := (hfin.bx 0 rfl).cell 0 rfl
        exact bodyPost_ret (v := (.tuple #[.agg #[.slice none 0 0], .slice none 0 0, .int .i64 8])) (by simp [results, Try.results10, go_sem, q4]) rfl ⟨RetTCE.fail HR.out, hfin.bel⟩
      | false =>
        have b2 := E4.out.bx 2 rfl
        have c2_0 := b2.cell 0 rfl
        clear b2
        go_wp2_with fail
        refine (twC X s (w.heap.size + 1) (D := fun _ => True) (Fct.any (f := .gn (gUl (.slice ta X.length tk) X)) (E4.out.fc 3 rfl)) (show (gRg (w.heap.size + 1) 0 (spc s (.slice xa s.lv.length xk) (.slice xc s.pa.length xj))).at_ _ _ from ⟨⟨(E4.out.bx 1 rfl).lt, trivial⟩, (E4.out.bx 1 rfl).range (o := 0) (fun j hj => by rw [Nat.zero_add])⟩) (Fct.any (f := .gn (gSp s (.slice xa s.lv.length xk) (.slice xc s.pa.length xj))) (E4.out.fc 2 rfl)) fs.out hb.out (t := false) HW.out (by omega)).mono ?_
        rintro e w3 ⟨rfl, hb⟩
        have E5 : Hid (Env D w [(w.heap.size + 1 + 1, 25, [.slice none 0 0]), (w.heap.size + 1, 41, spc s (.slice xa s.lv.length xk) (.slice xc s.pa.length xj)), (w.heap.size, 25, [.slice ta X.length tk])] [.rw (.slice xa s.lv.length xk) s.lv.length 3 (lcl s.lv), .rw (.slice xc s.pa.length xj) s.pa.length 32 s.pa.flatten, .gn (gSp s (.slice xa s.lv.length xk) (.slice xc s.pa.length xj)), .gn (gUl (.slice ta X.length tk) X)] w3) := Lib.hid (E4.out.below hb)
        clear c2_0 E4 hb
        have HNS : Hid (¬ ∃ u ∈ X.map Uv.u, u.sp = s) := Lib.hid (fun h => Bool.noConfusion (HW2.out.2 h))
        clear HW
        have b3 := E5.out.bx 2 rfl
        have c3_0 := b3.cell 0 rfl
        clear b3
        go_wp2_with fail
        refine (copyAll_c X (E5.out.fc 3 rfl) ⟨by omega, hb.out⟩).mono ?_
        rintro e w4 ⟨⟨is, ic, ia, ik, iX, rfl, iM, iO, iH, iG⟩, hb⟩
        have E6 : Hid (Env D w ((w.heap.size + 1 + 1, 25, [.slice none 0 0]) :: (w.heap.size + 1, 41, spc s (.slice xa s.lv.length xk) (.slice xc s.pa.length xj)) :: (w.heap.size, 25, [.slice ta X.length tk]) :: is) [.gn (gUd iX), .rw (.slice xa s.lv.length xk) s.lv.length 3 (lcl s.lv), .rw (.slice xc s.pa.length xj) s.pa.length 32 s.pa.flatten, .gn (gSp s (.slice xa s.lv.length xk) (.slice xc s.pa.length xj)), .gn (gUl (.slice ta X.length tk) X)] w4) := Lib.hid ((E5.out.gotSegF (E5.out.gotSeg hb iH.out) (.gn (gUd iX)) iG.out).cast (by simp))
        clear c3_0 E5 hb
        have IM := Lib.hid iM
        clear iM
        have b4 := E6.out.bx 1 rfl
        have c4 := b4.cell 77 (spc_tail HS.out _ _).1
        clear b4
        have E7 : Hid (Env D w ((w.heap.size + 1 + 1, 25, [.slice none 0 0]) :: (w.heap.size + 1, 41, spc s (.slice xa s.lv.length xk) (.slice xc s.pa.length xj)) :: (w.heap.size, 25, [.slice ta X.length tk]) :: (is ++ ([] : List Bx))) [.gn (gUd []), .gn (gUd iX), .rw (.slice xa s.lv.length xk) s.lv.length 3 (lcl s.lv), .rw (.slice xc s.pa.length xj) s.pa.length 32 s.pa.flatten, .gn (gSp s (.slice xa s.lv.length xk) (.slice xc s.pa.length xj)), .gn (gUl (.slice ta X.length tk) X)] _) := Lib.hid ((E6.out.note (.gn (gUd [])) gUd.nil).cast (by simp))
        have hsl : s.lv.length ≤ 32 := HT.out.2.1
        go_wp2_with fail
        have hZ := E7.out
        have ES : Hid (Env D w ((w.heap.size + 1 + 1, 25, [.slice none 0 0]) :: (w.heap.size + 1, 41, spc s (.slice xa s.lv.length xk) (.slice xc s.pa.length xj)) :: (w.heap.size, 25, [.slice ta X.length tk]) :: (is ++ ([] : List Bx))) [.gn (gUd iX), .gn (gUd []), .rw (.slice xa s.lv.length xk) s.lv.length 3 (lcl s.lv), .rw (.slice xc s.pa.length xj) s.pa.length 32 s.pa.flatten, .gn (gSp s (.slice xa s.lv.length xk) (.slice xc s.pa.length xj)), .gn (gUl (.slice ta X.length tk) X)] _) := Lib.hid ⟨hZ.bel, hZ.box, ⟨hZ.fc 1 rfl, ⟨hZ.fc 0 rfl, ⟨hZ.fc 2 rfl, ⟨hZ.fc 3 rfl, ⟨hZ.fc 4 rfl, ⟨hZ.fc 5 rfl, trivial⟩⟩⟩⟩⟩⟩⟩
        clear hZ
        go_loopg [42, 8, 9] (s.lv.length) (fun gk s42 s8 s9 wr => ∃ (k : Nat) (ls : List Bx) (lc : List Value) (la : Option Addr) (lk : Nat) (lX : List Uv) (qs : List Bx) (qc : List Value) (qa : Option Addr) (qk : Nat) (qX : List Uv), s42 = .int .i64 (k : Int) ∧ s8 = .slice la lX.length lk ∧ s9 = .slice qa qX.length qk ∧ Hid (Env D w ((w.heap.size + 1 + 1, 25, [.slice none 0 0]) :: (w.heap.size + 1, 41, spc s (.slice xa s.lv.length xk) (.slice xc s.pa.length xj)) :: (w.heap.size, 25, [.slice ta X.length tk]) :: (ls ++ qs)) [.gn (gUd lX), .gn (gUd qX), .rw (.slice xa s.lv.length xk) s.lv.length 3 (lcl s.lv), .rw (.slice xc s.pa.length xj) s.pa.length 32 s.pa.flatten, .gn (gSp s (.slice xa s.lv.length xk) (.slice xc s.pa.length xj)), .gn (gUl (.slice ta X.length tk) X)] wr) ∧ Hid (OU ls lc (.slice la lX.length lk) lX) ∧ Hid (OU qs qc (.slice qa qX.length qk) qX) ∧ Hid ((k ≤ s.lv.length ∧ gk = s.lv.length - k) ∧ lX.map Uv.u = (putN s (X.map Uv.u) k).1 ∧ qX.map Uv.u = (putN s (X.map Uv.u) k).2))
        case atStart => exact ⟨0, is, ic, ia, ik, iX, ([] : List Bx), [], none, 0, [], rfl, rfl, rfl, Lib.hid (ES.out.cast (by simp)), iO, (Lib.hid OU.nil), Lib.hid ⟨⟨Nat.zero_le _, rfl⟩, IM.out, rfl⟩⟩
        case round =>
          clear c4 E6 E7 ES iO
          obtain ⟨k, ls, lc, la, lk, lX, qs, qc, qa, qk, qX, rfl, rfl, rfl, EL, lO, qO, HA⟩ := hrel
          obtain ⟨⟨a1, a2⟩, a3, a4⟩ := HA.out
          have HX := Lib.hid a3
          have HQ := Lib.hid a4
          clear a3 a4 HA
          have HLEN : Hid (lX.length = (putN s (X.map Uv.u) k).1.length ∧ qX.length = (putN s (X.map Uv.u) k).2.length) := Lib.hid ⟨by rw [← HX.out, List.length_map], by rw [← HQ.out, List.length_map]⟩
          have HBD : Hid (lX.length ≤ 100100 ∧ qX.length ≤ 100) := Lib.hid (by have h1 := HLEN.out; have h2 := putN_len (s := s) (L := X.map Uv.u) k; have h3 := HL.out; omega)
          by_cases hy : k = s.lv.length
          · skip
            have t6 : decide ((k : Int) < (s.lv.length : Int)) = false := decide_eq_false (by omega)
            have t7 : decide (k < s.lv.length) = false := decide_eq_false (by omega)
            have HX2 : Hid (lX.map Uv.u = (putN s (X.map Uv.u) s.lv.length).1) := Lib.hid (by rw [HX.out, hy])
            have HQ2 : Hid (qX.map Uv.u = (putN s (X.map Uv.u) s.lv.length).2) := Lib.hid (by rw [HQ.out, hy])
            have HY := Lib.hid hy
            clear hy
            by_cases qf : 2000 < lX.length
            · have d1 : decide ((2000 : Int) < (lX.length : Int)) = true := decide_eq_true (by omega)
              have d1b : decide (2000 < lX.length) = true := decide_eq_true qf
              go_wp2_with fail
              refine (fail_c 5 (D := fun _ => True)).mono ?_
              rintro e w5 ⟨rfl, hb⟩
              have E8 : Hid (Env D w ((w.heap.size + 1 + 1, 25, [.slice none 0 0]) :: (w.heap.size + 1, 41, spc s (.slice xa s.lv.length xk) (.slice xc s.pa.length xj)) :: (w.heap.size, 25, [.slice ta X.length tk]) :: (ls ++ qs)) [.gn (gUd lX), .gn (gUd qX), .rw (.slice xa s.lv.length xk) s.lv.length 3 (lcl s.lv), .rw (.slice xc s.pa.length xj) s.pa.length 32 s.pa.flatten, .gn (gSp s (.slice xa s.lv.length xk) (.slice xc s.pa.length xj)), .gn (gUl (.slice ta X.length tk) X)] w5) := Lib.hid (EL.out.below hb)
              clear EL hb
              have b5 := E8.out.bx 0 rfl
              have c5_0 := b5.cell 0 rfl
              have f5_0 := b5.frozen 0
              clear b5
              have HR := Lib.hid (by have h := hr.out; rw [putRes_full HV.out HT.out HNS.out (by rw [← HX2.out, List.length_map]; exact qf)] at h; simpa [eq_comm] using h : L = [] ∧ C = [] ∧ n = 5)
              go_wp2
              have E9 : Hid (Env D w ((w.heap.size + 1 + 1, 25, [.slice none 0 0]) :: (w.heap.size + 1, 41, spc s (.slice xa s.lv.length xk) (.slice xc s.pa.length xj)) :: (w.heap.size, 25, [.slice ta X.length tk]) :: (ls ++ qs)) [.gn (gUd lX), .gn (gUd qX), .rw (.slice xa s.lv.length xk) s.lv.length 3 (lcl s.lv), .rw (.slice xc s.pa.length xj) s.pa.length 32 s.pa.flatten, .gn (gSp s (.slice xa s.lv.length xk) (.slice xc s.pa.length xj)), .gn (gUl (.slice ta X.length tk) X)] _) := Lib.hid ((E8.out.set 0 0 (.slice none 0 0) rfl))
              have hfin := E9.out
              have q6 := (hfin.bx 0 rfl).cell 0 rfl
              exact bodyPost_ret (v := (.tuple #[.agg #[.slice none 0 0], .slice none 0 0, .int .i64 5])) (by simp [results, Try.results10, go_sem, q6]) rfl ⟨RetTCE.fail HR.out, hfin.bel⟩
            have d1 : decide ((2000 : Int) < (lX.length : Int)) = false := decide_eq_false (by omega)
            have d1b : decide (2000 < lX.length) = false := decide_eq_false qf
            have HR : Hid (lX.map Uv.u = L ∧ qX.map Uv.u = C ∧ n = 0) := Lib.hid (by have h := hr.out; rw [putRes_ok HV.out HT.out HNS.out (by rw [← HX2.out, List.length_map]; exact qf)] at h; simp only [Prod.mk.injEq] at h; exact ⟨HX2.out.trans h.1, HQ2.out.trans h.2.1, h.2.2.symm⟩)
            clear qf
            have b5 := EL.out.bx 0 rfl
            have c5_0 := b5.cell 0 rfl
            have f5_0 := b5.frozen 0
            clear b5
            go_wp2_with fail
            have E8 : Hid (Env D w ((w.heap.size + 1 + 1, 25, [.slice la lX.length lk]) :: (w.heap.size + 1, 41, spc s (.slice xa s.lv.length xk) (.slice xc s.pa.length xj)) :: (w.heap.size, 25, [.slice ta X.length tk]) :: (ls ++ qs)) [.gn (gUd lX), .gn (gUd qX), .rw (.slice xa s.lv.length xk) s.lv.length 3 (lcl s.lv), .rw (.slice xc s.pa.length xj) s.pa.length 32 s.pa.flatten, .gn (gSp s (.slice xa s.lv.length xk) (.slice xc s.pa.length xj)), .gn (gUl (.slice ta X.length tk) X)] _) := Lib.hid ((EL.out.set 0 0 (.slice la lX.length lk) rfl))
            have HRL := Lib.hid (OU.ret lO.out E8.out (by intro p hp; simp [hp]) (E8.out.out 0 rfl))
            have HRQ := Lib.hid (OU.ret qO.out E8.out (by intro p hp; simp [hp]) (E8.out.out 1 rfl))
            have b6 := E8.out.bx 0 rfl
            have c6_0 := b6.cell 0 rfl
            clear b6
            go_wp2
            have hfin := E8.out
            have q7 := (hfin.bx 0 rfl).cell 0 rfl
            exact bodyPost_ret (v := (.tuple #[.agg #[.slice la lX.length lk], .slice qa qX.length qk, .int .i64 0])) (by simp [results, Try.results10, go_sem, q7]) rfl ⟨⟨_, lX, _, qX, by rw [HR.out.2.2], HR.out.1, HR.out.2.1, HRL, HRQ⟩, hfin.bel⟩
          have hk : k < s.lv.length := lt_of hy a1
          have t6 : decide ((k : Int) < (s.lv.length : Int)) = true := decide_eq_true (by omega)
          have t7 : decide (k < s.lv.length) = true := decide_eq_true (by omega)
          have hkI : (k : Int) < (s.lv.length : Int) := by omega
          clear hy
          have hbd := HBD.out
          go_upto_region 10 with (fail)
          obtain ⟨xab, xao, rfl⟩ := Rw.addr (EL.out.fc 2 rfl) (by omega)
          obtain ⟨⟨c0, c1, c2⟩, ce⟩ : ∃ c, s.lv[k] = c := ⟨_, rfl⟩
          have cE := Lib.hid ce
          have ch := (EL.out.fc 2 rfl).triple (k := k) rfl hk
          rw [ce] at ch
          obtain ⟨cx, cy, cz⟩ := ch
          clear ce
          have HCB : Hid (leafB s k = c0) := Lib.hid (by rw [leafB_eq hk, cE.out])
          have HSR : Hid (SrtT (lX.map Uv.u)) := Lib.hid (by rw [HX.out]; exact putN_srt HV.out.2.2 k)
          obtain ⟨i, hi⟩ : ∃ i, lb (lX.map Uv.u) (cInt s.cn 4) c0 = i := ⟨_, rfl⟩
          have HI := Lib.hid hi
          have HPL : Hid (PlaceK (lX.map Uv.u) (cInt s.cn 4) c0 i) := Lib.hid (by rw [← hi]; exact place_lb HSR.out _ _)
          have HFD : Hid (FoundK (lX.map Uv.u) (cInt s.cn 4) c0 i (findK (lX.map Uv.u) (cInt s.cn 4) c0).isSome) := Lib.hid (by rw [← hi]; exact found_lb HSR.out _ _)
          have hil : i ≤ lX.length := by have h := HPL.out.1; rwa [List.length_map] at h
          clear hi
          go_upto_region 11 with (fail)
          have E8 : Hid (Env D w ((wr.heap.size, 69, [.int .i64 c0, .int .i64 c1, .int .i64 c2]) :: (w.heap.size + 1 + 1, 25, [.slice none 0 0]) :: (w.heap.size + 1, 41, spc s (.slice (some ⟨xab, xao, none⟩) s.lv.length xk) (.slice xc s.pa.length xj)) :: (w.heap.size, 25, [.slice ta X.length tk]) :: (ls ++ qs)) [.gn (gUd lX), .gn (gUd qX), .rw (.slice (some ⟨xab, xao, none⟩) s.lv.length xk) s.lv.length 3 (lcl s.lv), .rw (.slice xc s.pa.length xj) s.pa.length 32 s.pa.flatten, .gn (gSp s (.slice (some ⟨xab, xao, none⟩) s.lv.length xk) (.slice xc s.pa.length xj)), .gn (gUl (.slice ta X.length tk) X)] _) := Lib.hid ((EL.out.push 69 [.int .i64 c0, .int .i64 c1, .int .i64 c2] (wr.heap.size) (by simp)))
          clear cx cy cz EL
          generalize wr.alloc (.cells #[.int .i64 c0, .int .i64 c1, .int .i64 c2] 69) = w5 at *
          obtain ⟨fd, hfd⟩ : ∃ fd, findK (lX.map Uv.u) (cInt s.cn 4) c0 = fd := ⟨_, rfl⟩
          have HFK := Lib.hid hfd
          rw [hfd] at HFD
          clear hfd
          cases fd with
          | some y =>
            have b5 := E8.out.bx 2 rfl
            have c5 := b5.cell 4 (spc_ca HS.out _ _ (by omega))
            clear b5
            have b6 := E8.out.bx 0 rfl
            have c6_0 := b6.cell 0 rfl
            clear b6
            go_wp2_with fail
            refine (search_c lX (cInt s.cn 4) c0 (D := fun _ => True) (OU.gul lO.out E8.out (by intro p hp; simp [hp]) (E8.out.fc 0 rfl)) HPL.out (t := true) HFD.out (by omega)).mono ?_
            rintro e w6 ⟨rfl, hb⟩
            have E9 : Hid (Env D w ((wr.heap.size, 69, [.int .i64 c0, .int .i64 c1, .int .i64 c2]) :: (w.heap.size + 1 + 1, 25, [.slice none 0 0]) :: (w.heap.size + 1, 41, spc s (.slice (some ⟨xab, xao, none⟩) s.lv.length xk) (.slice xc s.pa.length xj)) :: (w.heap.size, 25, [.slice ta X.length tk]) :: (ls ++ qs)) [.gn (gUd lX), .gn (gUd qX), .rw (.slice (some ⟨xab, xao, none⟩) s.lv.length xk) s.lv.length 3 (lcl s.lv), .rw (.slice xc s.pa.length xj) s.pa.length 32 s.pa.flatten, .gn (gSp s (.slice (some ⟨xab, xao, none⟩) s.lv.length xk) (.slice xc s.pa.length xj)), .gn (gUl (.slice ta X.length tk) X)] w6) := Lib.hid (E8.out.below hb)
            clear c5 c6_0 E8 hb
            have HAT : Hid ((lX.map Uv.u)[i]? = some y) := Lib.hid (by rw [← HI.out]; exact findK_at HSR.out HFK.out)
            have hii : i < lX.length := by have h := (List.getElem?_eq_some_iff.1 HAT.out).1; rwa [List.length_map] at h
            have hiI : (i : Int) < (lX.length : Int) := by omega
            go_upto_region 13 with (fail)
            obtain ⟨pg, rfl⟩ := OU.hd lO.out (Nat.lt_of_le_of_lt (Nat.zero_le _) hii)
            obtain ⟨p, pe⟩ : ∃ x, lX[i] = x := ⟨_, rfl⟩
            have pE := Lib.hid pe
            clear pe
            have pR : Hid (World.rangeAt _ pg (i * 83) (usc p.u p.la p.pa)) := Lib.hid (gUl.el (OU.gul lO.out E9.out (by intro p hp; simp [hp]) (E9.out.fc 0 rfl)) hii pE.out)
            have E10 : Hid (Env D w ((wr.heap.size, 69, [.int .i64 c0, .int .i64 c1, .int .i64 c2]) :: (w.heap.size + 1 + 1, 25, [.slice none 0 0]) :: (w.heap.size + 1, 41, spc s (.slice (some ⟨xab, xao, none⟩) s.lv.length xk) (.slice xc s.pa.length xj)) :: (w.heap.size, 25, [.slice ta X.length tk]) :: (ls ++ qs)) [.gn (gSp p.u.sp p.la p.pa), .gn (gUd lX), .gn (gUd qX), .rw (.slice (some ⟨xab, xao, none⟩) s.lv.length xk) s.lv.length 3 (lcl s.lv), .rw (.slice xc s.pa.length xj) s.pa.length 32 s.pa.flatten, .gn (gSp s (.slice (some ⟨xab, xao, none⟩) s.lv.length xk) (.slice xc s.pa.length xj)), .gn (gUl (.slice ta X.length tk) X)] _) := Lib.hid (E9.out.note (.gn (gSp p.u.sp p.la p.pa)) (gUd.at' (E9.out.fc 0 rfl) hii pE.out))
            clear E9
            have pS := Lib.hid (E10.out.spOk 0 rfl)
            have pN : Hid (∀ v ∈ usc p.u p.la p.pa, v.oneCell' = true) := Lib.hid (usc_one pS.out (Rw.oneV (E10.out.fc 0 rfl).2.1) (Rw.oneV (E10.out.fc 0 rfl).2.2))
            have HPY : Hid (p.u = y) := Lib.hid (by have h := map_get hii pE.out; rw [HAT.out] at h; cases h; rfl)
            have HBP : Hid (p.u.sp.lv.length ≤ 1000000 ∧ p.u.sp.pa.length ≤ 1000000) := Lib.hid (by have h := putN_use HV.out.2.2 HV.out.2.1 HT.out (Nat.le_of_lt hk) y (by rw [← HX.out]; exact List.mem_of_getElem? HAT.out); rw [HPY.out]; have h1 := h.1.2.1; have h2 := h.1.2.2.1; omega)
            have HQL : Hid (qX.length + 1 ≤ 1000000) := Lib.hid (by omega)
            go_wp2_with (first | (with_reducible refine wpl_load_b bUse pg (i * 83) ?_ ?_ (usc p.u p.la p.pa) (usc_len pS.out _ _) pR.out ?_; (· exact ⟨_, rfl, rfl⟩); (· kernel_rfl)))
            refine (copyOf_c p.u (E10.out.fc 0 rfl) HBP.out).mono ?_
            rintro e w7 ⟨⟨ra, rb, rfl, rh⟩, hb⟩
            have E11 : Hid (Env D w ((wr.heap.size, 69, [.int .i64 c0, .int .i64 c1, .int .i64 c2]) :: (w.heap.size + 1 + 1, 25, [.slice none 0 0]) :: (w.heap.size + 1, 41, spc s (.slice (some ⟨xab, xao, none⟩) s.lv.length xk) (.slice xc s.pa.length xj)) :: (w.heap.size, 25, [.slice ta X.length tk]) :: (ls ++ qs)) [.gn (gSp p.u.sp ra rb), .gn (gSp p.u.sp p.la p.pa), .gn (gUd lX), .gn (gUd qX), .rw (.slice (some ⟨xab, xao, none⟩) s.lv.length xk) s.lv.length 3 (lcl s.lv), .rw (.slice xc s.pa.length xj) s.pa.length 32 s.pa.flatten, .gn (gSp s (.slice (some ⟨xab, xao, none⟩) s.lv.length xk) (.slice xc s.pa.length xj)), .gn (gUl (.slice ta X.length tk) X)] w7) := Lib.hid (E10.out.got (E10.out.below hb) (.gn (gSp p.u.sp ra rb)) rh.out)
            clear pR E10 hb rh
            have rN : Hid (∀ v ∈ usc p.u ra rb, v.oneCell' = true) := Lib.hid (gUv.one (x := ⟨p.u, ra, rb⟩) (E11.out.fc 0 rfl))
            have E12 : Hid (Env D w ((w7.heap.size, 44, usc p.u ra rb) :: (wr.heap.size, 69, [.int .i64 c0, .int .i64 c1, .int .i64 c2]) :: (w.heap.size + 1 + 1, 25, [.slice none 0 0]) :: (w.heap.size + 1, 41, spc s (.slice (some ⟨xab, xao, none⟩) s.lv.length xk) (.slice xc s.pa.length xj)) :: (w.heap.size, 25, [.slice ta X.length tk]) :: (ls ++ qs)) [.gn (gSp p.u.sp ra rb), .gn (gSp p.u.sp p.la p.pa), .gn (gUd lX), .gn (gUd qX), .rw (.slice (some ⟨xab, xao, none⟩) s.lv.length xk) s.lv.length 3 (lcl s.lv), .rw (.slice xc s.pa.length xj) s.pa.length 32 s.pa.flatten, .gn (gSp s (.slice (some ⟨xab, xao, none⟩) s.lv.length xk) (.slice xc s.pa.length xj)), .gn (gUl (.slice ta X.length tk) X)] _) := Lib.hid ((E11.out.push 44 (usc p.u ra rb) (w7.heap.size) (by simp)))
            go_wp2_with (first | (with_reducible refine wpl_slice1 ?_ (usc p.u ra rb) (usc_len pS.out _ _) ?_ ?_; (· rfl); (· exact ⟨_, rfl, rfl⟩)) | (at_builtin; refine wpl_app1 (c := 1) tiUse rfl _ _ rfl E12.out (A := ((w7.heap.size, 44, usc p.u ra rb) :: (wr.heap.size, 69, [.int .i64 c0, .int .i64 c1, .int .i64 c2]) :: (w.heap.size + 1 + 1, 25, [.slice none 0 0]) :: (w.heap.size + 1, 41, spc s (.slice (some ⟨xab, xao, none⟩) s.lv.length xk) (.slice xc s.pa.length xj)) :: (w.heap.size, 25, [.slice ta X.length tk]) :: ls)) (sg := qs) (B' := []) (F := ((w7.heap.size, 44, usc p.u ra rb) :: (wr.heap.size, 69, [.int .i64 c0, .int .i64 c1, .int .i64 c2]) :: (w.heap.size + 1 + 1, 25, [.slice none 0 0]) :: (w.heap.size + 1, 41, spc s (.slice (some ⟨xab, xao, none⟩) s.lv.length xk) (.slice xc s.pa.length xj)) :: (w.heap.size, 25, [.slice ta X.length tk]) :: (ls ++ qs))) (by simp) (qO.out.os rfl) rfl rfl (SrcN.box (m := 1) (E12.out.bx 0 rfl) (usc_len pS.out _ _) rN.out) HQL.out ?_))
            intro zg zp zc w8 zH zT zE
            have zO := Lib.hid (OU.app (x := Uv.mk p.u ra rb) (g' := zg) (cs' := zc) (cap' := zp) qO.out rfl zH.out zT.out)
            have E13 : Hid (Env D w ((w7.heap.size, 44, usc p.u ra rb) :: (wr.heap.size, 69, [.int .i64 c0, .int .i64 c1, .int .i64 c2]) :: (w.heap.size + 1 + 1, 25, [.slice none 0 0]) :: (w.heap.size + 1, 41, spc s (.slice (some ⟨xab, xao, none⟩) s.lv.length xk) (.slice xc s.pa.length xj)) :: (w.heap.size, 25, [.slice ta X.length tk]) :: (ls ++ [(zg, 44, zc)])) [.gn (gUd (qX ++ [Uv.mk p.u ra rb])), .gn (gSp p.u.sp ra rb), .gn (gSp p.u.sp p.la p.pa), .gn (gUd lX), .gn (gUd qX), .rw (.slice (some ⟨xab, xao, none⟩) s.lv.length xk) s.lv.length 3 (lcl s.lv), .rw (.slice xc s.pa.length xj) s.pa.length 32 s.pa.flatten, .gn (gSp s (.slice (some ⟨xab, xao, none⟩) s.lv.length xk) (.slice xc s.pa.length xj)), .gn (gUl (.slice ta X.length tk) X)] w8) := Lib.hid ((zE.out.note (.gn (gUd (qX ++ [Uv.mk p.u ra rb]))) (gUd.app (x := Uv.mk p.u ra rb) (zE.out.fc 3 rfl) (zE.out.fc 0 rfl))).cast (by simp))
            clear E11 E12 zE zH zT qO
            have HX2 : Hid (lX.map Uv.u = (putN s (X.map Uv.u) (k + 1)).1) := Lib.hid (by rw [putN_some (by rw [← HX.out, HCB.out]; exact HFK.out)]; exact HX.out)
            have HQ2 : Hid ((qX ++ [Uv.mk p.u ra rb]).map Uv.u = (putN s (X.map Uv.u) (k + 1)).2) := Lib.hid (by rw [putN_some (by rw [← HX.out, HCB.out]; exact HFK.out), List.map_append, HQ.out]; show _ ++ [p.u] = _; rw [HPY.out])
            have hZ := ((E13.out.drop).drop)
            have EZ : Hid (Env D w ((w.heap.size + 1 + 1, 25, [.slice none 0 0]) :: (w.heap.size + 1, 41, spc s (.slice (some ⟨xab, xao, none⟩) s.lv.length xk) (.slice xc s.pa.length xj)) :: (w.heap.size, 25, [.slice ta X.length tk]) :: (ls ++ [(zg, 44, zc)])) [.gn (gUd lX), .gn (gUd (qX ++ [Uv.mk p.u ra rb])), .rw (.slice (some ⟨xab, xao, none⟩) s.lv.length xk) s.lv.length 3 (lcl s.lv), .rw (.slice xc s.pa.length xj) s.pa.length 32 s.pa.flatten, .gn (gSp s (.slice (some ⟨xab, xao, none⟩) s.lv.length xk) (.slice xc s.pa.length xj)), .gn (gUl (.slice ta X.length tk) X)] _) := Lib.hid ⟨hZ.bel, hZ.box, ⟨hZ.fc 3 rfl, ⟨hZ.fc 0 rfl, ⟨hZ.fc 5 rfl, ⟨hZ.fc 6 rfl, ⟨hZ.fc 7 rfl, ⟨hZ.fc 8 rfl, trivial⟩⟩⟩⟩⟩⟩⟩
            clear hZ
            go_wp2_with (first | (with_reducible refine wpl_slice1 ?_ (usc p.u ra rb) (usc_len pS.out _ _) ?_ ?_; (· rfl); (· exact ⟨_, rfl, rfl⟩)))
            go_roundg (s.lv.length - (k + 1))
            case rel => exact ⟨k + 1, ls, lc, _, _, lX, [(zg, 44, zc)], zc, (some ⟨zg, 0, none⟩), zp, qX ++ [Uv.mk p.u ra rb], rfl, rfl, (OU.val rfl), Lib.hid (EZ.out.cast (by simp)), lO, (OU.len' zO), Lib.hid ⟨⟨by omega, rfl⟩, HX2.out, HQ2.out⟩⟩
            case measure => exact by omega
          | none =>
            have b5 := E8.out.bx 2 rfl
            have c5 := b5.cell 4 (spc_ca HS.out _ _ (by omega))
            clear b5
            have b6 := E8.out.bx 0 rfl
            have c6_0 := b6.cell 0 rfl
            clear b6
            go_wp2_with fail
            refine (search_c lX (cInt s.cn 4) c0 (D := fun _ => True) (OU.gul lO.out E8.out (by intro p hp; simp [hp]) (E8.out.fc 0 rfl)) HPL.out (t := false) HFD.out (by omega)).mono ?_
            rintro e w6 ⟨rfl, hb⟩
            have E9 : Hid (Env D w ((wr.heap.size, 69, [.int .i64 c0, .int .i64 c1, .int .i64 c2]) :: (w.heap.size + 1 + 1, 25, [.slice none 0 0]) :: (w.heap.size + 1, 41, spc s (.slice (some ⟨xab, xao, none⟩) s.lv.length xk) (.slice xc s.pa.length xj)) :: (w.heap.size, 25, [.slice ta X.length tk]) :: (ls ++ qs)) [.gn (gUd lX), .gn (gUd qX), .rw (.slice (some ⟨xab, xao, none⟩) s.lv.length xk) s.lv.length 3 (lcl s.lv), .rw (.slice xc s.pa.length xj) s.pa.length 32 s.pa.flatten, .gn (gSp s (.slice (some ⟨xab, xao, none⟩) s.lv.length xk) (.slice xc s.pa.length xj)), .gn (gUl (.slice ta X.length tk) X)] w6) := Lib.hid (E8.out.below hb)
            clear c5 c6_0 E8 hb
            obtain ⟨nu, hnu⟩ : ∃ nu : Us, nu = ⟨cInt s.cn 4, c0, s, (k : Int)⟩ := ⟨_, rfl⟩
            have HNU := Lib.hid hnu
            have HNS2 : Hid (SpOk nu.sp) := Lib.hid (by rw [hnu]; exact HS.out)
            have HNG : Hid (nu = useOf s k) := Lib.hid (by rw [hnu]; unfold useOf; rw [HCB.out])
            clear hnu
            go_upto_region 14 with (fail)
            have HIL : Hid (lX.length ≤ 1000000) := Lib.hid (by omega)
            have b7 := E9.out.bx 2 rfl
            have c7 := b7.cell 4 (spc_ca HS.out _ _ (by omega))
            clear b7
            have b8 := E9.out.bx 0 rfl
            have c8_0 := b8.cell 0 rfl
            clear b8
            have b9 := E9.out.bx 2 rfl
            have r9 := Lib.hid (b9.range (o := 0) (fun j hj => by rw [Nat.zero_add]))
            clear b9
            go_wp2_with (first | (with_reducible refine wpl_load_b bSpend (w.heap.size + 1) 0 ?_ ?_ (spc s (.slice (some ⟨xab, xao, none⟩) s.lv.length xk) (.slice xc s.pa.length xj)) (spc_len HS.out _ _) r9.out ?_; (· exact ⟨_, rfl, rfl⟩); (· kernel_rfl)) | (with_reducible refine wpl_use4 (la := (.slice (some ⟨xab, xao, none⟩) s.lv.length xk)) (pa := (.slice xc s.pa.length xj)) HNU.out HS.out ?_ ?_ ?_; (· rfl); (· exact ⟨_, _, _, _, rfl, rfl, rfl, rfl, rfl⟩)))
            refine (copyOf_c nu (by rw [HNU.out]; exact (E9.out.fc 4 rfl)) (by rw [HNU.out]; exact fs.out)).mono ?_
            rintro e w7 ⟨⟨na, nb, rfl, nh⟩, hb⟩
            have E10 : Hid (Env D w ((wr.heap.size, 69, [.int .i64 c0, .int .i64 c1, .int .i64 c2]) :: (w.heap.size + 1 + 1, 25, [.slice none 0 0]) :: (w.heap.size + 1, 41, spc s (.slice (some ⟨xab, xao, none⟩) s.lv.length xk) (.slice xc s.pa.length xj)) :: (w.heap.size, 25, [.slice ta X.length tk]) :: (ls ++ qs)) [.gn (gSp nu.sp na nb), .gn (gUd lX), .gn (gUd qX), .rw (.slice (some ⟨xab, xao, none⟩) s.lv.length xk) s.lv.length 3 (lcl s.lv), .rw (.slice xc s.pa.length xj) s.pa.length 32 s.pa.flatten, .gn (gSp s (.slice (some ⟨xab, xao, none⟩) s.lv.length xk) (.slice xc s.pa.length xj)), .gn (gUl (.slice ta X.length tk) X)] w7) := Lib.hid (E9.out.got (E9.out.below hb) (.gn (gSp nu.sp na nb)) nh.out)
            clear c7 c8_0 r9 E9 hb nh
            have nN : Hid (∀ v ∈ usc nu na nb, v.oneCell' = true) := Lib.hid (gUv.one (x := ⟨nu, na, nb⟩) (E10.out.fc 0 rfl))
            have E11 : Hid (Env D w ((w7.heap.size, 44, usc nu na nb) :: (wr.heap.size, 69, [.int .i64 c0, .int .i64 c1, .int .i64 c2]) :: (w.heap.size + 1 + 1, 25, [.slice none 0 0]) :: (w.heap.size + 1, 41, spc s (.slice (some ⟨xab, xao, none⟩) s.lv.length xk) (.slice xc s.pa.length xj)) :: (w.heap.size, 25, [.slice ta X.length tk]) :: (ls ++ qs)) [.gn (gSp nu.sp na nb), .gn (gUd lX), .gn (gUd qX), .rw (.slice (some ⟨xab, xao, none⟩) s.lv.length xk) s.lv.length 3 (lcl s.lv), .rw (.slice xc s.pa.length xj) s.pa.length 32 s.pa.flatten, .gn (gSp s (.slice (some ⟨xab, xao, none⟩) s.lv.length xk) (.slice xc s.pa.length xj)), .gn (gUl (.slice ta X.length tk) X)] _) := Lib.hid ((E10.out.push 44 (usc nu na nb) (w7.heap.size) (by simp)))
            go_wp2_with (first | (with_reducible refine wpl_use4 (la := (.slice (some ⟨xab, xao, none⟩) s.lv.length xk)) (pa := (.slice xc s.pa.length xj)) HNU.out HS.out ?_ ?_ ?_; (· rfl); (· exact ⟨_, _, _, _, rfl, rfl, rfl, rfl, rfl⟩)) | (with_reducible refine wpl_slice1 ?_ (usc nu na nb) (usc_len HNS2.out _ _) ?_ ?_; (· rfl); (· exact ⟨_, rfl, rfl⟩)))
            refine (insertU_env (x := Uv.mk nu na nb) (j := 0) E11.out (A := [(w7.heap.size, 44, usc nu na nb), (wr.heap.size, 69, [.int .i64 c0, .int .i64 c1, .int .i64 c2]), (w.heap.size + 1 + 1, 25, [.slice none 0 0]), (w.heap.size + 1, 41, spc s (.slice (some ⟨xab, xao, none⟩) s.lv.length xk) (.slice xc s.pa.length xj)), (w.heap.size, 25, [.slice ta X.length tk])]) (sg := ls) (B' := qs) (F := ((w7.heap.size, 44, usc nu na nb) :: (wr.heap.size, 69, [.int .i64 c0, .int .i64 c1, .int .i64 c2]) :: (w.heap.size + 1 + 1, 25, [.slice none 0 0]) :: (w.heap.size + 1, 41, spc s (.slice (some ⟨xab, xao, none⟩) s.lv.length xk) (.slice xc s.pa.length xj)) :: (w.heap.size, 25, [.slice ta X.length tk]) :: (ls ++ qs))) (by simp) lO.out (E11.out.fc 1 rfl) (E11.out.fc 0 rfl) rfl rfl hil HIL.out).mono ?_
            rintro e w8 ⟨jg, jp, jc, rfl, jO, jE⟩
            have E12 : Hid (Env D w ((w7.heap.size, 44, usc nu na nb) :: (wr.heap.size, 69, [.int .i64 c0, .int .i64 c1, .int .i64 c2]) :: (w.heap.size + 1 + 1, 25, [.slice none 0 0]) :: (w.heap.size + 1, 41, spc s (.slice (some ⟨xab, xao, none⟩) s.lv.length xk) (.slice xc s.pa.length xj)) :: (w.heap.size, 25, [.slice ta X.length tk]) :: ((jg, 44, jc) :: qs)) [.gn (gSp nu.sp na nb), .gn (gUd lX), .gn (gUd qX), .rw (.slice (some ⟨xab, xao, none⟩) s.lv.length xk) s.lv.length 3 (lcl s.lv), .rw (.slice xc s.pa.length xj) s.pa.length 32 s.pa.flatten, .gn (gSp s (.slice (some ⟨xab, xao, none⟩) s.lv.length xk) (.slice xc s.pa.length xj)), .gn (gUl (.slice ta X.length tk) X)] w8) := Lib.hid (jE.out.cast (by simp))
            clear E10 E11 jE
            have E13 : Hid (Env D w ((w7.heap.size, 44, usc nu na nb) :: (wr.heap.size, 69, [.int .i64 c0, .int .i64 c1, .int .i64 c2]) :: (w.heap.size + 1 + 1, 25, [.slice none 0 0]) :: (w.heap.size + 1, 41, spc s (.slice (some ⟨xab, xao, none⟩) s.lv.length xk) (.slice xc s.pa.length xj)) :: (w.heap.size, 25, [.slice ta X.length tk]) :: ((jg, 44, jc) :: qs)) [.gn (gUd (insU lX i (Uv.mk nu na nb))), .gn (gSp nu.sp na nb), .gn (gUd lX), .gn (gUd qX), .rw (.slice (some ⟨xab, xao, none⟩) s.lv.length xk) s.lv.length 3 (lcl s.lv), .rw (.slice xc s.pa.length xj) s.pa.length 32 s.pa.flatten, .gn (gSp s (.slice (some ⟨xab, xao, none⟩) s.lv.length xk) (.slice xc s.pa.length xj)), .gn (gUl (.slice ta X.length tk) X)] w8) := Lib.hid (E12.out.note (.gn (gUd (insU lX i (Uv.mk nu na nb)))) (gUd.ins (E12.out.fc 1 rfl) (E12.out.fc 0 rfl)))
            clear E12 lO
            have HX2 : Hid ((insU lX i (Uv.mk nu na nb)).map Uv.u = (putN s (X.map Uv.u) (k + 1)).1) := Lib.hid (by rw [putN_none (by rw [← HX.out, HCB.out]; exact HFK.out), insU_map, ← HX.out, HCB.out, HI.out]; show insU _ _ nu = _; rw [HNG.out])
            have HQ2 : Hid (qX.map Uv.u = (putN s (X.map Uv.u) (k + 1)).2) := Lib.hid (by rw [putN_none (by rw [← HX.out, HCB.out]; exact HFK.out)]; exact HQ.out)
            have hZ := ((E13.out.drop).drop)
            have EZ : Hid (Env D w ((w.heap.size + 1 + 1, 25, [.slice none 0 0]) :: (w.heap.size + 1, 41, spc s (.slice (some ⟨xab, xao, none⟩) s.lv.length xk) (.slice xc s.pa.length xj)) :: (w.heap.size, 25, [.slice ta X.length tk]) :: ((jg, 44, jc) :: qs)) [.gn (gUd (insU lX i (Uv.mk nu na nb))), .gn (gUd qX), .rw (.slice (some ⟨xab, xao, none⟩) s.lv.length xk) s.lv.length 3 (lcl s.lv), .rw (.slice xc s.pa.length xj) s.pa.length 32 s.pa.flatten, .gn (gSp s (.slice (some ⟨xab, xao, none⟩) s.lv.length xk) (.slice xc s.pa.length xj)), .gn (gUl (.slice ta X.length tk) X)] _) := Lib.hid ⟨hZ.bel, hZ.box, ⟨hZ.fc 0 rfl, ⟨hZ.fc 3 rfl, ⟨hZ.fc 4 rfl, ⟨hZ.fc 5 rfl, ⟨hZ.fc 6 rfl, ⟨hZ.fc 7 rfl, trivial⟩⟩⟩⟩⟩⟩⟩
            clear hZ
            go_wp2_with (first | (with_reducible refine wpl_use4 (la := (.slice (some ⟨xab, xao, none⟩) s.lv.length xk)) (pa := (.slice xc s.pa.length xj)) HNU.out HS.out ?_ ?_ ?_; (· rfl); (· exact ⟨_, _, _, _, rfl, rfl, rfl, rfl, rfl⟩)) | (with_reducible refine wpl_slice1 ?_ (usc nu na nb) (usc_len HNS2.out _ _) ?_ ?_; (· rfl); (· exact ⟨_, rfl, rfl⟩)))
            go_roundg (s.lv.length - (k + 1))
            case rel => exact ⟨k + 1, [(jg, 44, jc)], jc, (some ⟨jg, 0, none⟩), jp, (insU lX i (Uv.mk nu na nb)), qs, qc, _, _, qX, rfl, (OU.vali hil), rfl, Lib.hid (EZ.out.cast (by simp)), (OU.leni hil jO), qO, Lib.hid ⟨⟨by omega, rfl⟩, HX2.out, HQ2.out⟩⟩
            case measure => exact by omega
end Go.Proofs.Ytfnnfmefihiefaa

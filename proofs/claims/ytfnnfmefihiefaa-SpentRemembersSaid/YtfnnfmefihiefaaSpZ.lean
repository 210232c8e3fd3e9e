/- the reference's Put. -/
import Derived.Test.YtfnnfmefihiefaaSpY
namespace Go.Proofs.Ytfnnfmefihiefaa
open Go.RowKit
set_option linter.unusedVariables false
set_option linter.unusedSimpArgs false
theorem findR_some {L : List Us} (h : SrtT L) {a b : Int} {u : Us} (e : findK L a b = some u) : FindR L a b ((lb L a b : Nat) : Int) := by
  obtain ⟨_, h2⟩ := (findK_iff h).1 e
  refine .inr ⟨lb L a b, u, rfl, findK_at h e, h2, fun j v hj hv hk => ?_⟩
  have := (place_lb h a b).at h hv hk.1 hk.2
  omega
theorem findR_none {L : List Us} {a b : Int} (e : findK L a b = none) : FindR L a b (-1) := .inl ⟨rfl, fun k u hu hk => findK_none.1 e u (List.mem_of_getElem? hu) hk⟩
theorem exec_use4 {oi : Oper} {ev : Operand → Value} {w : World} {u : Us} {A B K : Int} {s : Sp} {la pa : Value} (hu : u = ⟨A, B, s, K⟩) (h : SpOk s)
    (hx : ∃ x y z q, oi.op = .build 44 #[(0, x), (1, y), (2, z), (3, q)] ∧ ev x = .int .i64 A ∧ ev y = .int .i64 B ∧ ev z = .agg (spc s la pa).toArray ∧ ev q = .int .i64 K) :
    (execOp ev oi).run Try.prog w = .ok (.value (.agg (usc u la pa).toArray)) w := by
  obtain ⟨x, y, z, q, ho, h1, h2, h3, h4⟩ := hx
  subst hu
  exact exec_build_b _ ho [(0, .int .i64 A), (1, .int .i64 B), (2, .agg (spc s la pa).toArray), (3, .int .i64 K)] (by simp [h1, h2, h3, h4]) _ (built_use4 h A B K la pa)
set_option maxRecDepth 100000 in
set_option maxHeartbeats 8000000 in
theorem rput_c {D : Nat → Prop} (X : List Uv) (s : Sp) {ta : Option Addr} {tk : Nat} {za zb : Value} {w : World} (hx : Fct.at w D (.gn (gUl (.slice ta X.length tk) X))) (hs : Fct.at w D (.gn (gSp s za zb))) (hb0 : ∀ x ∈ X, x.u.sp.lv.length ≤ 1000000 ∧ x.u.sp.pa.length ≤ 1000000) (fs0 : s.lv.length ≤ 1000000 ∧ s.pa.length ≤ 1000000) (hm0 : X.length ≤ 50000) {L C : List Us} {n : Int} (hr0 : putRes (X.map Uv.u) s = (L, C, n)) :
    Calls Try.prog 20 #[.agg #[.slice ta X.length tk], .agg (spc s za zb).toArray] w fun e w' => RetT (fun b => D b ∨ w.heap.size ≤ b) L C n e w' ∧ Below w.heap.size w w' := by
  have E0 : Hid (Env D w [] [.gn (gSp s za zb), .gn (gUl (.slice ta X.length tk) X)] w) := Lib.hid (((Env.start D w).arg (.gn (gUl (.slice ta X.length tk) X)) hx).arg (.gn (gSp s za zb)) hs)
  clear hx hs
  go_enter Try.func20, Try.ntmps20
  have hb := Lib.hid hb0
  have fs := Lib.hid fs0
  have hm := Lib.hid hm0
  have hr := Lib.hid hr0
  clear hb0 fs0 hm0 hr0
  have HL : Hid ((X.map Uv.u).length = X.length) := Lib.hid (List.length_map ..)
  have hm9 := hm.out
  have HS := Lib.hid (E0.out.spOk 0 rfl)
  obtain ⟨xa, xk, xc, xj, rfl, rfl, E10⟩ := E0.out.elS 0 rfl
  have E1 : Hid (Env D w [] [.rw (.slice xa s.lv.length xk) s.lv.length 3 (lcl s.lv), .rw (.slice xc s.pa.length xj) s.pa.length 32 s.pa.flatten, .gn (gSp s (.slice xa s.lv.length xk) (.slice xc s.pa.length xj)), .gn (gUl (.slice ta X.length tk) X)] _) := Lib.hid E10
  clear E10 E0
  obtain ⟨v1, v1h⟩ : ∃ b : Bool, b = true ↔ ValidT (X.map Uv.u) := by by_cases h : ValidT (X.map Uv.u); (· exact ⟨true, ⟨fun _ => h, fun _ => rfl⟩⟩); exact ⟨false, ⟨fun h2 => Bool.noConfusion h2, fun h2 => absurd h2 h⟩⟩
  have v1H := Lib.hid v1h
  clear v1h
  obtain ⟨v2, v2h⟩ : ∃ b : Bool, b = true ↔ StOk s := by by_cases h : StOk s; (· exact ⟨true, ⟨fun _ => h, fun _ => rfl⟩⟩); exact ⟨false, ⟨fun h2 => Bool.noConfusion h2, fun h2 => absurd h2 h⟩⟩
  have v2H := Lib.hid v2h
  clear v2h
  cases v1 with
  | false =>
    go_wp2_with fail
    have E2 : Hid (Env D w [(w.heap.size + 1 + 1, 25, [.slice none 0 0]), (w.heap.size + 1, 41, spc s (.slice xa s.lv.length xk) (.slice xc s.pa.length xj)), (w.heap.size, 25, [.slice ta X.length tk])] [.rw (.slice xa s.lv.length xk) s.lv.length 3 (lcl s.lv), .rw (.slice xc s.pa.length xj) s.pa.length 32 s.pa.flatten, .gn (gSp s (.slice xa s.lv.length xk) (.slice xc s.pa.length xj)), .gn (gUl (.slice ta X.length tk) X)] _) := Lib.hid ((((E1.out.push 25 [.slice ta X.length tk] (w.heap.size) (by simp)).push 41 (spc s (.slice xa s.lv.length xk) (.slice xc s.pa.length xj)) (w.heap.size + 1) (by simp)).push 25 [.slice none 0 0] (w.heap.size + 1 + 1) (by simp)))
    refine (rvalid_c X (E2.out.fc 3 rfl) hb.out (t := false) (by first | exact v1H.out | simpa using v1H.out) (by omega)).mono ?_
    rintro e w1 ⟨rfl, hb⟩
    have E3 : Hid (Env D w [(w.heap.size + 1 + 1, 25, [.slice none 0 0]), (w.heap.size + 1, 41, spc s (.slice xa s.lv.length xk) (.slice xc s.pa.length xj)), (w.heap.size, 25, [.slice ta X.length tk])] [.rw (.slice xa s.lv.length xk) s.lv.length 3 (lcl s.lv), .rw (.slice xc s.pa.length xj) s.pa.length 32 s.pa.flatten, .gn (gSp s (.slice xa s.lv.length xk) (.slice xc s.pa.length xj)), .gn (gUl (.slice ta X.length tk) X)] w1) := Lib.hid (E2.out.below hb)
    clear E1 E2 hb
    have b1 := E3.out.bx 0 rfl
    have c1_0 := b1.cell 0 rfl
    have f1_0 := b1.frozen 0
    clear b1
    have HR : Hid (L = [] ∧ C = [] ∧ n = 1) := Lib.hid (by have h := hr.out; rw [putRes_bad (.inl (by simpa using v1H.out))] at h; simpa [eq_comm] using h)
    go_wp2
    have E4 : Hid (Env D w [(w.heap.size + 1 + 1, 25, [.slice none 0 0]), (w.heap.size + 1, 41, spc s (.slice xa s.lv.length xk) (.slice xc s.pa.length xj)), (w.heap.size, 25, [.slice ta X.length tk])] [.rw (.slice xa s.lv.length xk) s.lv.length 3 (lcl s.lv), .rw (.slice xc s.pa.length xj) s.pa.length 32 s.pa.flatten, .gn (gSp s (.slice xa s.lv.length xk) (.slice xc s.pa.length xj)), .gn (gUl (.slice ta X.length tk) X)] _) := Lib.hid ((E3.out.set 0 0 (.slice none 0 0) rfl))
    have hfin := E4.out
    have q2 := (hfin.bx 0 rfl).cell 0 rfl
    exact bodyPost_ret (v := (.tuple #[.agg #[.slice none 0 0], .slice none 0 0, .int .i64 1])) (by simp [results, Try.results20, go_sem, q2]) rfl ⟨RetTCE.open (RetTCE.fail HR.out), hfin.bel⟩
  | true =>
    cases v2 with
    | false =>
      go_wp2_with fail
      have E2 : Hid (Env D w [(w.heap.size + 1 + 1, 25, [.slice none 0 0]), (w.heap.size + 1, 41, spc s (.slice xa s.lv.length xk) (.slice xc s.pa.length xj)), (w.heap.size, 25, [.slice ta X.length tk])] [.rw (.slice xa s.lv.length xk) s.lv.length 3 (lcl s.lv), .rw (.slice xc s.pa.length xj) s.pa.length 32 s.pa.flatten, .gn (gSp s (.slice xa s.lv.length xk) (.slice xc s.pa.length xj)), .gn (gUl (.slice ta X.length tk) X)] _) := Lib.hid ((((E1.out.push 25 [.slice ta X.length tk] (w.heap.size) (by simp)).push 41 (spc s (.slice xa s.lv.length xk) (.slice xc s.pa.length xj)) (w.heap.size + 1) (by simp)).push 25 [.slice none 0 0] (w.heap.size + 1 + 1) (by simp)))
      refine (rvalid_c X (E2.out.fc 3 rfl) hb.out (t := true) (by first | exact v1H.out | simpa using v1H.out) (by omega)).mono ?_
      rintro e w1 ⟨rfl, hb⟩
      have E3 : Hid (Env D w [(w.heap.size + 1 + 1, 25, [.slice none 0 0]), (w.heap.size + 1, 41, spc s (.slice xa s.lv.length xk) (.slice xc s.pa.length xj)), (w.heap.size, 25, [.slice ta X.length tk])] [.rw (.slice xa s.lv.length xk) s.lv.length 3 (lcl s.lv), .rw (.slice xc s.pa.length xj) s.pa.length 32 s.pa.flatten, .gn (gSp s (.slice xa s.lv.length xk) (.slice xc s.pa.length xj)), .gn (gUl (.slice ta X.length tk) X)] w1) := Lib.hid (E2.out.below hb)
      clear E1 E2 hb
      have b1 := E3.out.bx 1 rfl
      have r1 := Lib.hid (b1.range (o := 0) (fun j hj => by rw [Nat.zero_add]))
      clear b1
      go_wp2_with (first | (with_reducible refine wpl_load_b bSpend (w.heap.size + 1) 0 ?_ ?_ (spc s (.slice xa s.lv.length xk) (.slice xc s.pa.length xj)) (spc_len HS.out _ _) r1.out ?_; (· exact ⟨_, rfl, rfl⟩); (· kernel_rfl)))
      refine (rstorable_c s (E3.out.fc 2 rfl) fs.out (t := false) (by first | exact v2H.out | simpa using v2H.out)).mono ?_
      rintro e w2 ⟨rfl, hb⟩
      have E4 : Hid (Env D w [(w.heap.size + 1 + 1, 25, [.slice none 0 0]), (w.heap.size + 1, 41, spc s (.slice xa s.lv.length xk) (.slice xc s.pa.length xj)), (w.heap.size, 25, [.slice ta X.length tk])] [.rw (.slice xa s.lv.length xk) s.lv.length 3 (lcl s.lv), .rw (.slice xc s.pa.length xj) s.pa.length 32 s.pa.flatten, .gn (gSp s (.slice xa s.lv.length xk) (.slice xc s.pa.length xj)), .gn (gUl (.slice ta X.length tk) X)] w2) := Lib.hid (E3.out.below hb)
      clear r1 E3 hb
      have b2 := E4.out.bx 0 rfl
      have c2_0 := b2.cell 0 rfl
      have f2_0 := b2.frozen 0
      clear b2
      have HR : Hid (L = [] ∧ C = [] ∧ n = 1) := Lib.hid (by have h := hr.out; rw [putRes_bad (.inr (by simpa using v2H.out))] at h; simpa [eq_comm] using h)
      go_wp2
      have E5 : Hid (Env D w [(w.heap.size + 1 + 1, 25, [.slice none 0 0]), (w.heap.size + 1, 41, spc s (.slice xa s.lv.length xk) (.slice xc s.pa.length xj)), (w.heap.size, 25, [.slice ta X.length tk])] [.rw (.slice xa s.lv.length xk) s.lv.length 3 (lcl s.lv), .rw (.slice xc s.pa.length xj) s.pa.length 32 s.pa.flatten, .gn (gSp s (.slice xa s.lv.length xk) (.slice xc s.pa.length xj)), .gn (gUl (.slice ta X.length tk) X)] _) := Lib.hid ((E4.out.set 0 0 (.slice none 0 0) rfl))
      have hfin := E5.out
      have q3 := (hfin.bx 0 rfl).cell 0 rfl
      exact bodyPost_ret (v := (.tuple #[.agg #[.slice none 0 0], .slice none 0 0, .int .i64 1])) (by simp [results, Try.results20, go_sem, q3]) rfl ⟨RetTCE.open (RetTCE.fail HR.out), hfin.bel⟩
    | true =>
      go_wp2_with fail
      have E2 : Hid (Env D w [(w.heap.size + 1 + 1, 25, [.slice none 0 0]), (w.heap.size + 1, 41, spc s (.slice xa s.lv.length xk) (.slice xc s.pa.length xj)), (w.heap.size, 25, [.slice ta X.length tk])] [.rw (.slice xa s.lv.length xk) s.lv.length 3 (lcl s.lv), .rw (.slice xc s.pa.length xj) s.pa.length 32 s.pa.flatten, .gn (gSp s (.slice xa s.lv.length xk) (.slice xc s.pa.length xj)), .gn (gUl (.slice ta X.length tk) X)] _) := Lib.hid ((((E1.out.push 25 [.slice ta X.length tk] (w.heap.size) (by simp)).push 41 (spc s (.slice xa s.lv.length xk) (.slice xc s.pa.length xj)) (w.heap.size + 1) (by simp)).push 25 [.slice none 0 0] (w.heap.size + 1 + 1) (by simp)))
      refine (rvalid_c X (E2.out.fc 3 rfl) hb.out (t := true) (by first | exact v1H.out | simpa using v1H.out) (by omega)).mono ?_
      rintro e w1 ⟨rfl, hb⟩
      have E3 : Hid (Env D w [(w.heap.size + 1 + 1, 25, [.slice none 0 0]), (w.heap.size + 1, 41, spc s (.slice xa s.lv.length xk) (.slice xc s.pa.length xj)), (w.heap.size, 25, [.slice ta X.length tk])] [.rw (.slice xa s.lv.length xk) s.lv.length 3 (lcl s.lv), .rw (.slice xc s.pa.length xj) s.pa.length 32 s.pa.flatten, .gn (gSp s (.slice xa s.lv.length xk) (.slice xc s.pa.length xj)), .gn (gUl (.slice ta X.length tk) X)] w1) := Lib.hid (E2.out.below hb)
      clear E1 E2 hb
      have b1 := E3.out.bx 1 rfl
      have r1 := Lib.hid (b1.range (o := 0) (fun j hj => by rw [Nat.zero_add]))
      clear b1
      go_wp2_with (first | (with_reducible refine wpl_load_b bSpend (w.heap.size + 1) 0 ?_ ?_ (spc s (.slice xa s.lv.length xk) (.slice xc s.pa.length xj)) (spc_len HS.out _ _) r1.out ?_; (· exact ⟨_, rfl, rfl⟩); (· kernel_rfl)))
      refine (rstorable_c s (E3.out.fc 2 rfl) fs.out (t := true) (by first | exact v2H.out | simpa using v2H.out)).mono ?_
      rintro e w2 ⟨rfl, hb⟩
      have E4 : Hid (Env D w [(w.heap.size + 1 + 1, 25, [.slice none 0 0]), (w.heap.size + 1, 41, spc s (.slice xa s.lv.length xk) (.slice xc s.pa.length xj)), (w.heap.size, 25, [.slice ta X.length tk])] [.rw (.slice xa s.lv.length xk) s.lv.length 3 (lcl s.lv), .rw (.slice xc s.pa.length xj) s.pa.length 32 s.pa.flatten, .gn (gSp s (.slice xa s.lv.length xk) (.slice xc s.pa.length xj)), .gn (gUl (.slice ta X.length tk) X)] w2) := Lib.hid (E3.out.below hb)
      clear r1 E3 hb
      have HV : Hid (ValidT (X.map Uv.u)) := Lib.hid (v1H.out.1 (by simp))
      have HT : Hid (StOk s) := Lib.hid (v2H.out.1 (by simp))
      go_wp2_with fail
      go_loopg [7] (X.length) (fun gk s7 wr => ∃ (k : Nat), s7 = .int .i64 (k : Int) ∧ Hid (Env D w [(w.heap.size + 1 + 1, 25, [.slice none 0 0]), (w.heap.size + 1, 41, spc s (.slice xa s.lv.length xk) (.slice xc s.pa.length xj)), (w.heap.size, 25, [.slice ta X.length tk])] [.rw (.slice xa s.lv.length xk) s.lv.length 3 (lcl s.lv), .rw (.slice xc s.pa.length xj) s.pa.length 32 s.pa.flatten, .gn (gSp s (.slice xa s.lv.length xk) (.slice xc s.pa.length xj)), .gn (gUl (.slice ta X.length tk) X)] wr) ∧ Hid ((k ≤ X.length ∧ gk = X.length - k) ∧ (∀ (j : Nat) (v : Us), j < k → (X.map Uv.u)[j]? = some v → v.sp ≠ s)))
      case atStart => exact ⟨0, rfl, Lib.hid E4.out, Lib.hid ⟨⟨Nat.zero_le _, rfl⟩, fun j v h => absurd h (Nat.not_lt_zero _)⟩⟩
      case round =>
        clear E4
        obtain ⟨k, rfl, EL, HA⟩ := hrel
        obtain ⟨⟨a1, a2⟩, a3⟩ := HA.out
        have HN := Lib.hid a3
        clear a3 HA
        by_cases hy : k = X.length
        rotate_left
        · have hk : k < X.length := lt_of hy a1
          have t6 : decide ((k : Int) < (X.length : Int)) = true := decide_eq_true (by omega)
          have t7 : decide (k < X.length) = true := decide_eq_true (by omega)
          have hkI : (k : Int) < (X.length : Int) := by omega
          clear hy
          have b2 := EL.out.bx 2 rfl
          have c2_0 := b2.cell 0 rfl
          clear b2
          go_upto_region 6 with (fail)
          obtain ⟨tab, tao, rfl⟩ := gUl.addr (EL.out.fc 3 rfl) (List.ne_nil_of_length_pos (Nat.lt_of_le_of_lt (Nat.zero_le _) hk))
          obtain ⟨⟨xu, xp, xq⟩, xe⟩ : ∃ x, X[k] = x := ⟨_, rfl⟩
          have xE := Lib.hid xe
          clear xe
          have E5 : Hid (Env D w [(w.heap.size + 1 + 1, 25, [.slice none 0 0]), (w.heap.size + 1, 41, spc s (.slice xa s.lv.length xk) (.slice xc s.pa.length xj)), (w.heap.size, 25, [.slice (some ⟨tab, tao, none⟩) X.length tk])] [.gn (gRg tab (tao + k * 83) (usc xu xp xq)), .gn (gSp xu.sp xp xq), .rw (.slice xa s.lv.length xk) s.lv.length 3 (lcl s.lv), .rw (.slice xc s.pa.length xj) s.pa.length 32 s.pa.flatten, .gn (gSp s (.slice xa s.lv.length xk) (.slice xc s.pa.length xj)), .gn (gUl (.slice (some ⟨tab, tao, none⟩) X.length tk) X)] _) := Lib.hid (EL.out.elU 3 rfl hk xE.out)
          clear EL
          have xS := Lib.hid (E5.out.spOk 1 rfl)
          have xN : Hid (∀ v ∈ usc xu xp xq, v.oneCell' = true) := Lib.hid (usc_one xS.out (Rw.oneV (E5.out.fc 1 rfl).2.1) (Rw.oneV (E5.out.fc 1 rfl).2.2))
          have HU : Hid ((X.map Uv.u)[k]? = some xu) := Lib.hid (map_get hk xE.out)
          have HBX : Hid (xu.sp.lv.length ≤ 1000000 ∧ xu.sp.pa.length ≤ 1000000) := Lib.hid (hb.out _ (List.mem_of_getElem (h := hk) xE.out))
          obtain ⟨o, oh⟩ : ∃ b : Bool, b = true ↔ xu.sp = s := by by_cases h : xu.sp = s; (· exact ⟨true, ⟨fun _ => h, fun _ => rfl⟩⟩); exact ⟨false, ⟨fun h2 => Bool.noConfusion h2, fun h2 => absurd h2 h⟩⟩
          have oH := Lib.hid oh
          clear oh
          cases o with
          | true =>
            go_wp2_with fail
            have E6 : Hid (Env D w [(w.heap.size + 1 + 1, 25, [.slice none 0 0]), (w.heap.size + 1, 41, spc s (.slice xa s.lv.length xk) (.slice xc s.pa.length xj)), (w.heap.size, 25, [.slice (some ⟨tab, tao, none⟩) X.length tk])] [.gn (gRg tab (tao + k * 83) (usc xu xp xq)), .gn (gSp xu.sp xp xq), .rw (.slice xa s.lv.length xk) s.lv.length 3 (lcl s.lv), .rw (.slice xc s.pa.length xj) s.pa.length 32 s.pa.flatten, .gn (gSp s (.slice xa s.lv.length xk) (.slice xc s.pa.length xj)), .gn (gUl (.slice (some ⟨tab, tao, none⟩) X.length tk) X)] (wr.drew)) := Lib.hid E5.out.drew
            clear c2_0 E5
            refine wp_regionU (S := fun w' => w'.cell? ⟨w.heap.size, 0, none⟩ = some (.slice (some ⟨tab, tao, none⟩) X.length tk) ∧ w'.rangeAt tab (tao + k * 83 + 2) (spc xu.sp xp xq) ∧ w'.rangeAt (w.heap.size + 1) 0 (spc s (.slice xa s.lv.length xk) (.slice xc s.pa.length xj))) [] (by kernel_rfl) (⟨((E6.out.bx 2 rfl).cell 0 rfl), (gRg.sub (i := 2) (E6.out.fc 0 rfl).2 (usc_sp xS.out _ _)), ((E6.out.bx 1 rfl).range (o := 0) (fun j hj => by rw [Nat.zero_add]))⟩) (fun hHeld => ?_)
            generalize wr.drew = w3 at *
            refine uTake (i := 0) (some 28) (v := ?_) rfl rfl (by kernel_rfl) (by kernel_rfl) (by kernel_rfl) (by kernel_rfl) (fun _ _ _ h => h) (by rfl) (by assumption) ?_ ?_
            rotate_left
            · (intro wS hSw; (try dsimp only at hSw); go_simp; try with_reducible rfl)
            try simp only [Act.put, List.setIfInBounds_toArray, List.set_cons_zero, List.set_cons_succ]
            refine uTake (i := 1) (some 29) (v := ?_) rfl rfl (by kernel_rfl) (by kernel_rfl) (by kernel_rfl) (by kernel_rfl) (fun _ _ _ h => h) (by rfl) (by assumption) ?_ ?_
            rotate_left
            · (intro wS hSw; (try dsimp only at hSw); go_simp; try with_reducible rfl)
            try simp only [Act.put, List.setIfInBounds_toArray, List.set_cons_zero, List.set_cons_succ]
            refine uTake (i := 2) (some 30) (v := ?_) rfl rfl (by kernel_rfl) (by kernel_rfl) (by kernel_rfl) (by kernel_rfl) (fun _ _ _ h => h) (by rfl) (by assumption) ?_ ?_
            rotate_left
            · (intro wS hSw; (try dsimp only at hSw); go_simp; try with_reducible rfl)
            try simp only [Act.put, List.setIfInBounds_toArray, List.set_cons_zero, List.set_cons_succ]
            refine uTake (i := 3) (some 31) (v := ?_) rfl rfl (by kernel_rfl) (by kernel_rfl) (by kernel_rfl) (by kernel_rfl) (fun _ _ _ h => h) (by rfl) (by assumption) ?_ ?_
            rotate_left
            · (intro wS hSw; (try dsimp only at hSw); go_simp; try with_reducible rfl)
            try simp only [Act.put, List.setIfInBounds_toArray, List.set_cons_zero, List.set_cons_succ]
            refine uTake (i := 4) (some 32) (v := ?_) rfl rfl (by kernel_rfl) (by kernel_rfl) (by kernel_rfl) (by kernel_rfl) (fun _ _ _ h => h) (by rfl) (by assumption) ?_ ?_
            rotate_left
            · (intro wS hSw; (try dsimp only at hSw); go_simp; try with_reducible rfl)
            try simp only [Act.put, List.setIfInBounds_toArray, List.set_cons_zero, List.set_cons_succ]
            refine uTake (i := 5) (some 33) (v := .agg (spc xu.sp xp xq).toArray) rfl rfl (by kernel_rfl) (by kernel_rfl) (by kernel_rfl) (by kernel_rfl) (fun _ _ _ h => h) (by rfl) (by assumption) ?_ ?_
            · (intro wS hSw; (try dsimp only at hSw); revert hSw; (try simp only [and_imp]); intros; exact exec_load_b bSpend _ rfl tab (tao + k * 83 + 2) rfl (spc xu.sp xp xq) (spc_len xS.out _ _) (by assumption))
            try simp only [Act.put, List.setIfInBounds_toArray, List.set_cons_zero, List.set_cons_succ]
            refine uTake (i := 6) (some 34) (v := .agg (spc s (.slice xa s.lv.length xk) (.slice xc s.pa.length xj)).toArray) rfl rfl (by kernel_rfl) (by kernel_rfl) (by kernel_rfl) (by kernel_rfl) (fun _ _ _ h => h) (by rfl) (by assumption) ?_ ?_
            · (intro wS hSw; (try dsimp only at hSw); revert hSw; (try simp only [and_imp]); intros; exact exec_load_b bSpend _ rfl (w.heap.size + 1) 0 rfl (spc s (.slice xa s.lv.length xk) (.slice xc s.pa.length xj)) (spc_len HS.out _ _) (by assumption))
            try simp only [Act.put, List.setIfInBounds_toArray, List.set_cons_zero, List.set_cons_succ]
            refine uReady (rs := [7]) (by kernel_rfl) (by simp) ?_
            refine ReadyU.cons rfl (fun KK hKK => ?_) ReadyU.nil
            go_simp
            refine (same32_c xu.sp s (E6.out.fc 1 rfl) (E6.out.fc 4 rfl) HBX.out fs.out (r := true) (by first | exact oH.out | simpa using oH.out)).mono ?_
            rintro e w4 ⟨rfl, hb⟩
            have E7 : Hid (Env D w [(w.heap.size + 1 + 1, 25, [.slice none 0 0]), (w.heap.size + 1, 41, spc s (.slice xa s.lv.length xk) (.slice xc s.pa.length xj)), (w.heap.size, 25, [.slice (some ⟨tab, tao, none⟩) X.length tk])] [.gn (gRg tab (tao + k * 83) (usc xu xp xq)), .gn (gSp xu.sp xp xq), .rw (.slice xa s.lv.length xk) s.lv.length 3 (lcl s.lv), .rw (.slice xc s.pa.length xj) s.pa.length 32 s.pa.flatten, .gn (gSp s (.slice xa s.lv.length xk) (.slice xc s.pa.length xj)), .gn (gUl (.slice (some ⟨tab, tao, none⟩) X.length tk) X)] w4) := Lib.hid (E6.out.below hb)
            clear E6 hb
            (try dsimp only)
            clear hHeld
            refine hKK.out _ _ (⟨((E7.out.bx 2 rfl).cell 0 rfl), (gRg.sub (i := 2) (E7.out.fc 0 rfl).2 (usc_sp xS.out _ _)), ((E7.out.bx 1 rfl).range (o := 0) (fun j hj => by rw [Nat.zero_add]))⟩) (fun hHeld => ?_)
            clear hKK KK
            try simp only [Act.put, List.setIfInBounds_toArray, List.set_cons_zero, List.set_cons_succ]
            refine uDone (by kernel_rfl) ?_ _
            have b3 := E7.out.bx 0 rfl
            have c3_0 := b3.cell 0 rfl
            have f3_0 := b3.frozen 0
            clear b3
            have HR : Hid (L = [] ∧ C = [] ∧ n = 8) := Lib.hid (by have h := hr.out; rw [putRes_twice HV.out HT.out ⟨xu, List.mem_of_getElem? HU.out, oH.out.1 (by simp)⟩] at h; simpa [eq_comm] using h)
            go_wp2
            have E8 : Hid (Env D w [(w.heap.size + 1 + 1, 25, [.slice none 0 0]), (w.heap.size + 1, 41, spc s (.slice xa s.lv.length xk) (.slice xc s.pa.length xj)), (w.heap.size, 25, [.slice (some ⟨tab, tao, none⟩) X.length tk])] [.gn (gRg tab (tao + k * 83) (usc xu xp xq)), .gn (gSp xu.sp xp xq), .rw (.slice xa s.lv.length xk) s.lv.length 3 (lcl s.lv), .rw (.slice xc s.pa.length xj) s.pa.length 32 s.pa.flatten, .gn (gSp s (.slice xa s.lv.length xk) (.slice xc s.pa.length xj)), .gn (gUl (.slice (some ⟨tab, tao, none⟩) X.length tk) X)] _) := Lib.hid ((E7.out.set 0 0 (.slice none 0 0) rfl))
            have hfin := E8.out
            have q4 := (hfin.bx 0 rfl).cell 0 rfl
            exact bodyPost_ret (v := (.tuple #[.agg #[.slice none 0 0], .slice none 0 0, .int .i64 8])) (by simp [results, Try.results20, go_sem, q4]) rfl ⟨RetTCE.open (RetTCE.fail HR.out), hfin.bel⟩
          | false =>
            have HN2 : Hid (∀ (j : Nat) (v : Us), j < k + 1 → (X.map Uv.u)[j]? = some v → v.sp ≠ s) := Lib.hid (fun j v hj hv => by by_cases e : j = k; (· subst e; rw [HU.out] at hv; cases hv; exact fun h => Bool.noConfusion (oH.out.2 h)); exact HN.out j v (by omega) hv)
            go_wp2_with fail
            have E6 : Hid (Env D w [(w.heap.size + 1 + 1, 25, [.slice none 0 0]), (w.heap.size + 1, 41, spc s (.slice xa s.lv.length xk) (.slice xc s.pa.length xj)), (w.heap.size, 25, [.slice (some ⟨tab, tao, none⟩) X.length tk])] [.gn (gRg tab (tao + k * 83) (usc xu xp xq)), .gn (gSp xu.sp xp xq), .rw (.slice xa s.lv.length xk) s.lv.length 3 (lcl s.lv), .rw (.slice xc s.pa.length xj) s.pa.length 32 s.pa.flatten, .gn (gSp s (.slice xa s.lv.length xk) (.slice xc s.pa.length xj)), .gn (gUl (.slice (some ⟨tab, tao, none⟩) X.length tk) X)] (wr.drew)) := Lib.hid E5.out.drew
            clear c2_0 E5
            refine wp_regionU (S := fun w' => w'.cell? ⟨w.heap.size, 0, none⟩ = some (.slice (some ⟨tab, tao, none⟩) X.length tk) ∧ w'.rangeAt tab (tao + k * 83 + 2) (spc xu.sp xp xq) ∧ w'.rangeAt (w.heap.size + 1) 0 (spc s (.slice xa s.lv.length xk) (.slice xc s.pa.length xj))) [] (by kernel_rfl) (⟨((E6.out.bx 2 rfl).cell 0 rfl), (gRg.sub (i := 2) (E6.out.fc 0 rfl).2 (usc_sp xS.out _ _)), ((E6.out.bx 1 rfl).range (o := 0) (fun j hj => by rw [Nat.zero_add]))⟩) (fun hHeld => ?_)
            generalize wr.drew = w3 at *
            refine uTake (i := 0) (some 28) (v := ?_) rfl rfl (by kernel_rfl) (by kernel_rfl) (by kernel_rfl) (by kernel_rfl) (fun _ _ _ h => h) (by rfl) (by assumption) ?_ ?_
            rotate_left
            · (intro wS hSw; (try dsimp only at hSw); go_simp; try with_reducible rfl)
            try simp only [Act.put, List.setIfInBounds_toArray, List.set_cons_zero, List.set_cons_succ]
            refine uTake (i := 1) (some 29) (v := ?_) rfl rfl (by kernel_rfl) (by kernel_rfl) (by kernel_rfl) (by kernel_rfl) (fun _ _ _ h => h) (by rfl) (by assumption) ?_ ?_
            rotate_left
            · (intro wS hSw; (try dsimp only at hSw); go_simp; try with_reducible rfl)
            try simp only [Act.put, List.setIfInBounds_toArray, List.set_cons_zero, List.set_cons_succ]
            refine uTake (i := 2) (some 30) (v := ?_) rfl rfl (by kernel_rfl) (by kernel_rfl) (by kernel_rfl) (by kernel_rfl) (fun _ _ _ h => h) (by rfl) (by assumption) ?_ ?_
            rotate_left
            · (intro wS hSw; (try dsimp only at hSw); go_simp; try with_reducible rfl)
            try simp only [Act.put, List.setIfInBounds_toArray, List.set_cons_zero, List.set_cons_succ]
            refine uTake (i := 3) (some 31) (v := ?_) rfl rfl (by kernel_rfl) (by kernel_rfl) (by kernel_rfl) (by kernel_rfl) (fun _ _ _ h => h) (by rfl) (by assumption) ?_ ?_
            rotate_left
            · (intro wS hSw; (try dsimp only at hSw); go_simp; try with_reducible rfl)
            try simp only [Act.put, List.setIfInBounds_toArray, List.set_cons_zero, List.set_cons_succ]
            refine uTake (i := 4) (some 32) (v := ?_) rfl rfl (by kernel_rfl) (by kernel_rfl) (by kernel_rfl) (by kernel_rfl) (fun _ _ _ h => h) (by rfl) (by assumption) ?_ ?_
            rotate_left
            · (intro wS hSw; (try dsimp only at hSw); go_simp; try with_reducible rfl)
            try simp only [Act.put, List.setIfInBounds_toArray, List.set_cons_zero, List.set_cons_succ]
            refine uTake (i := 5) (some 33) (v := .agg (spc xu.sp xp xq).toArray) rfl rfl (by kernel_rfl) (by kernel_rfl) (by kernel_rfl) (by kernel_rfl) (fun _ _ _ h => h) (by rfl) (by assumption) ?_ ?_
            · (intro wS hSw; (try dsimp only at hSw); revert hSw; (try simp only [and_imp]); intros; exact exec_load_b bSpend _ rfl tab (tao + k * 83 + 2) rfl (spc xu.sp xp xq) (spc_len xS.out _ _) (by assumption))
            try simp only [Act.put, List.setIfInBounds_toArray, List.set_cons_zero, List.set_cons_succ]
            refine uTake (i := 6) (some 34) (v := .agg (spc s (.slice xa s.lv.length xk) (.slice xc s.pa.length xj)).toArray) rfl rfl (by kernel_rfl) (by kernel_rfl) (by kernel_rfl) (by kernel_rfl) (fun _ _ _ h => h) (by rfl) (by assumption) ?_ ?_
            · (intro wS hSw; (try dsimp only at hSw); revert hSw; (try simp only [and_imp]); intros; exact exec_load_b bSpend _ rfl (w.heap.size + 1) 0 rfl (spc s (.slice xa s.lv.length xk) (.slice xc s.pa.length xj)) (spc_len HS.out _ _) (by assumption))
            try simp only [Act.put, List.setIfInBounds_toArray, List.set_cons_zero, List.set_cons_succ]
            refine uReady (rs := [7]) (by kernel_rfl) (by simp) ?_
            refine ReadyU.cons rfl (fun KK hKK => ?_) ReadyU.nil
            go_simp
            refine (same32_c xu.sp s (E6.out.fc 1 rfl) (E6.out.fc 4 rfl) HBX.out fs.out (r := false) (by first | exact oH.out | simpa using oH.out)).mono ?_
            rintro e w4 ⟨rfl, hb⟩
            have E7 : Hid (Env D w [(w.heap.size + 1 + 1, 25, [.slice none 0 0]), (w.heap.size + 1, 41, spc s (.slice xa s.lv.length xk) (.slice xc s.pa.length xj)), (w.heap.size, 25, [.slice (some ⟨tab, tao, none⟩) X.length tk])] [.gn (gRg tab (tao + k * 83) (usc xu xp xq)), .gn (gSp xu.sp xp xq), .rw (.slice xa s.lv.length xk) s.lv.length 3 (lcl s.lv), .rw (.slice xc s.pa.length xj) s.pa.length 32 s.pa.flatten, .gn (gSp s (.slice xa s.lv.length xk) (.slice xc s.pa.length xj)), .gn (gUl (.slice (some ⟨tab, tao, none⟩) X.length tk) X)] w4) := Lib.hid (E6.out.below hb)
            clear E6 hb
            (try dsimp only)
            clear hHeld
            refine hKK.out _ _ (⟨((E7.out.bx 2 rfl).cell 0 rfl), (gRg.sub (i := 2) (E7.out.fc 0 rfl).2 (usc_sp xS.out _ _)), ((E7.out.bx 1 rfl).range (o := 0) (fun j hj => by rw [Nat.zero_add]))⟩) (fun hHeld => ?_)
            clear hKK KK
            try simp only [Act.put, List.setIfInBounds_toArray, List.set_cons_zero, List.set_cons_succ]
            refine uDone (by kernel_rfl) ?_ _
            have EZ := Lib.hid ((E7.out.forget).forget)
            go_wp2
            go_roundg (X.length - (k + 1))
            case rel => exact ⟨k + 1, rfl, EZ, Lib.hid ⟨⟨by omega, rfl⟩, HN2.out⟩⟩
            case measure => exact by omega
        rename World => wz
        have t6 : decide ((k : Int) < (X.length : Int)) = false := decide_eq_false (by omega)
        have t7 : decide (k < X.length) = false := decide_eq_false (by omega)
        have HNS : Hid (¬ ∃ u ∈ X.map Uv.u, u.sp = s) := Lib.hid (by rintro ⟨u, hu, e⟩; obtain ⟨j, hj, rfl⟩ := List.getElem_of_mem hu; exact HN.out j _ (by rw [List.length_map] at hj; omega) (List.getElem?_eq_getElem hj) e)
        have HY := Lib.hid hy
        clear hy
        have b2 := EL.out.bx 2 rfl
        have c2_0 := b2.cell 0 rfl
        clear b2
        go_wp2_with fail
        have E5 : Hid (Env D w [(wz.heap.size, 25, [.slice ta X.length tk]), (w.heap.size + 1 + 1, 25, [.slice none 0 0]), (w.heap.size + 1, 41, spc s (.slice xa s.lv.length xk) (.slice xc s.pa.length xj)), (w.heap.size, 25, [.slice ta X.length tk])] [.rw (.slice xa s.lv.length xk) s.lv.length 3 (lcl s.lv), .rw (.slice xc s.pa.length xj) s.pa.length 32 s.pa.flatten, .gn (gSp s (.slice xa s.lv.length xk) (.slice xc s.pa.length xj)), .gn (gUl (.slice ta X.length tk) X)] _) := Lib.hid ((EL.out.push 25 [.slice ta X.length tk] (wz.heap.size) (by simp)))
        have E6 : Hid (Env D w ((wz.heap.size, 25, [.slice ta X.length tk]) :: (w.heap.size + 1 + 1, 25, [.slice none 0 0]) :: (w.heap.size + 1, 41, spc s (.slice xa s.lv.length xk) (.slice xc s.pa.length xj)) :: (w.heap.size, 25, [.slice ta X.length tk]) :: ([] : List Bx)) [.gn (gUd []), .rw (.slice xa s.lv.length xk) s.lv.length 3 (lcl s.lv), .rw (.slice xc s.pa.length xj) s.pa.length 32 s.pa.flatten, .gn (gSp s (.slice xa s.lv.length xk) (.slice xc s.pa.length xj)), .gn (gUl (.slice ta X.length tk) X)] _) := Lib.hid ((E5.out.note (.gn (gUd [])) gUd.nil).cast (by simp))
        have E7 : Hid (Env D w ((wz.heap.size, 25, [.slice ta X.length tk]) :: (w.heap.size + 1 + 1, 25, [.slice none 0 0]) :: (w.heap.size + 1, 41, spc s (.slice xa s.lv.length xk) (.slice xc s.pa.length xj)) :: (w.heap.size, 25, [.slice ta X.length tk]) :: ([] : List Bx)) [.gn (gUl (.slice ta X.length tk) X), .gn (gUd []), .rw (.slice xa s.lv.length xk) s.lv.length 3 (lcl s.lv), .rw (.slice xc s.pa.length xj) s.pa.length 32 s.pa.flatten, .gn (gSp s (.slice xa s.lv.length xk) (.slice xc s.pa.length xj)), .gn (gUl (.slice ta X.length tk) X)] _) := Lib.hid (E6.out.note (.gn (gUl (.slice ta X.length tk) X)) (E6.out.fc 4 rfl))
        have hsl : s.lv.length ≤ 32 := HT.out.2.1
        clear t6 t7
        go_wp2_with fail
        have hZ := E7.out
        have ES : Hid (Env D w ((wz.heap.size, 25, [.slice ta X.length tk]) :: (w.heap.size + 1 + 1, 25, [.slice none 0 0]) :: (w.heap.size + 1, 41, spc s (.slice xa s.lv.length xk) (.slice xc s.pa.length xj)) :: (w.heap.size, 25, [.slice ta X.length tk]) :: ([] : List Bx)) [.gn (gUd []), .gn (gUl (.slice ta X.length tk) X), .rw (.slice xa s.lv.length xk) s.lv.length 3 (lcl s.lv), .rw (.slice xc s.pa.length xj) s.pa.length 32 s.pa.flatten, .gn (gSp s (.slice xa s.lv.length xk) (.slice xc s.pa.length xj)), .gn (gUl (.slice ta X.length tk) X)] _) := Lib.hid ⟨hZ.bel, hZ.box, ⟨hZ.fc 1 rfl, ⟨hZ.fc 0 rfl, ⟨hZ.fc 2 rfl, ⟨hZ.fc 3 rfl, ⟨hZ.fc 4 rfl, ⟨hZ.fc 5 rfl, trivial⟩⟩⟩⟩⟩⟩⟩
        clear hZ
        go_loopg [10, 8] (s.lv.length) (fun gk s10 s8 wr => ∃ (k : Nat) (oa : Option Addr) (ok : Nat) (oX : List Uv) (qs : List Bx) (qc : List Value) (qa : Option Addr) (qk : Nat) (qX : List Uv), s10 = .int .i64 (k : Int) ∧ s8 = .slice qa qX.length qk ∧ Hid (Env D w ((wz.heap.size, 25, [.slice oa oX.length ok]) :: (w.heap.size + 1 + 1, 25, [.slice none 0 0]) :: (w.heap.size + 1, 41, spc s (.slice xa s.lv.length xk) (.slice xc s.pa.length xj)) :: (w.heap.size, 25, [.slice ta X.length tk]) :: qs) [.gn (gUd qX), .gn (gUl (.slice oa oX.length ok) oX), .rw (.slice xa s.lv.length xk) s.lv.length 3 (lcl s.lv), .rw (.slice xc s.pa.length xj) s.pa.length 32 s.pa.flatten, .gn (gSp s (.slice xa s.lv.length xk) (.slice xc s.pa.length xj)), .gn (gUl (.slice ta X.length tk) X)] wr) ∧ Hid (OU qs qc (.slice qa qX.length qk) qX) ∧ Hid ((k ≤ s.lv.length ∧ gk = s.lv.length - k) ∧ oX.map Uv.u = (putN s (X.map Uv.u) k).1 ∧ qX.map Uv.u = (putN s (X.map Uv.u) k).2))
        case atStart => exact ⟨0, ta, tk, X, ([] : List Bx), [], none, 0, [], rfl, rfl, Lib.hid (ES.out.cast (by simp)), (Lib.hid OU.nil), Lib.hid ⟨⟨Nat.zero_le _, rfl⟩, rfl, rfl⟩⟩
        case round =>
          clear c2_0 EL E5 E6 E7 ES
          obtain ⟨k, oa, ok, oX, qs, qc, qa, qk, qX, rfl, rfl, EL, qO, HA⟩ := hrel
          obtain ⟨⟨b1, b2⟩, b3, b4⟩ := HA.out
          have HX := Lib.hid b3
          have HQ := Lib.hid b4
          clear b3 b4 HA
          have HLEN : Hid (oX.length = (putN s (X.map Uv.u) k).1.length ∧ qX.length = (putN s (X.map Uv.u) k).2.length) := Lib.hid ⟨by rw [← HX.out, List.length_map], by rw [← HQ.out, List.length_map]⟩
          have HBD : Hid (oX.length ≤ 50100 ∧ qX.length ≤ 100) := Lib.hid (by have h1 := HLEN.out; have h2 := putN_len (s := s) (L := X.map Uv.u) k; have h3 := HL.out; omega)
          by_cases hw : k = s.lv.length
          · skip
            have t6 : decide ((k : Int) < (s.lv.length : Int)) = false := decide_eq_false (by omega)
            have t7 : decide (k < s.lv.length) = false := decide_eq_false (by omega)
            have HX2 : Hid (oX.map Uv.u = (putN s (X.map Uv.u) s.lv.length).1) := Lib.hid (by rw [HX.out, hw])
            have HQ2 : Hid (qX.map Uv.u = (putN s (X.map Uv.u) s.lv.length).2) := Lib.hid (by rw [HQ.out, hw])
            have HYW := Lib.hid hw
            clear hw
            have b3 := EL.out.bx 2 rfl
            have c3 := b3.cell 77 (spc_tail HS.out _ _).1
            clear b3
            by_cases qf : 2000 < oX.length
            · have d1 : decide ((2000 : Int) < (oX.length : Int)) = true := decide_eq_true (by omega)
              have d1b : decide (2000 < oX.length) = true := decide_eq_true qf
              have b4 := EL.out.bx 0 rfl
              have c4_0 := b4.cell 0 rfl
              clear b4
              have b5 := EL.out.bx 1 rfl
              have c5_0 := b5.cell 0 rfl
              have f5_0 := b5.frozen 0
              clear b5
              have HR : Hid (L = [] ∧ C = [] ∧ n = 5) := Lib.hid (by have h := hr.out; rw [putRes_full HV.out HT.out HNS.out (by rw [← HX2.out, List.length_map]; exact qf)] at h; simpa [eq_comm] using h)
              go_wp2
              have E8 : Hid (Env D w ((wz.heap.size, 25, [.slice oa oX.length ok]) :: (w.heap.size + 1 + 1, 25, [.slice none 0 0]) :: (w.heap.size + 1, 41, spc s (.slice xa s.lv.length xk) (.slice xc s.pa.length xj)) :: (w.heap.size, 25, [.slice ta X.length tk]) :: qs) [.gn (gUd qX), .gn (gUl (.slice oa oX.length ok) oX), .rw (.slice xa s.lv.length xk) s.lv.length 3 (lcl s.lv), .rw (.slice xc s.pa.length xj) s.pa.length 32 s.pa.flatten, .gn (gSp s (.slice xa s.lv.length xk) (.slice xc s.pa.length xj)), .gn (gUl (.slice ta X.length tk) X)] _) := Lib.hid ((EL.out.set 1 0 (.slice none 0 0) rfl))
              have hfin := E8.out
              have q6 := (hfin.bx 1 rfl).cell 0 rfl
              exact bodyPost_ret (v := (.tuple #[.agg #[.slice none 0 0], .slice none 0 0, .int .i64 5])) (by simp [results, Try.results20, go_sem, q6]) rfl ⟨RetTCE.open (RetTCE.fail HR.out), hfin.bel⟩
            have d1 : decide ((2000 : Int) < (oX.length : Int)) = false := decide_eq_false (by omega)
            have d1b : decide (2000 < oX.length) = false := decide_eq_false qf
            have HR : Hid (oX.map Uv.u = L ∧ qX.map Uv.u = C ∧ n = 0) := Lib.hid (by have h := hr.out; rw [putRes_ok HV.out HT.out HNS.out (by rw [← HX2.out, List.length_map]; exact qf)] at h; simp only [Prod.mk.injEq] at h; exact ⟨HX2.out.trans h.1, HQ2.out.trans h.2.1, h.2.2.symm⟩)
            clear qf
            have b4 := EL.out.bx 0 rfl
            have c4_0 := b4.cell 0 rfl
            clear b4
            have b5 := EL.out.bx 1 rfl
            have c5_0 := b5.cell 0 rfl
            have f5_0 := b5.frozen 0
            clear b5
            go_wp2_with fail
            have E8 : Hid (Env D w ((wz.heap.size, 25, [.slice oa oX.length ok]) :: (w.heap.size + 1 + 1, 25, [.slice oa oX.length ok]) :: (w.heap.size + 1, 41, spc s (.slice xa s.lv.length xk) (.slice xc s.pa.length xj)) :: (w.heap.size, 25, [.slice ta X.length tk]) :: qs) [.gn (gUd qX), .gn (gUl (.slice oa oX.length ok) oX), .rw (.slice xa s.lv.length xk) s.lv.length 3 (lcl s.lv), .rw (.slice xc s.pa.length xj) s.pa.length 32 s.pa.flatten, .gn (gSp s (.slice xa s.lv.length xk) (.slice xc s.pa.length xj)), .gn (gUl (.slice ta X.length tk) X)] _) := Lib.hid ((EL.out.set 1 0 (.slice oa oX.length ok) rfl))
            have HRQ := Lib.hid (OU.ret qO.out E8.out (by intro p hp; simp [hp]) (E8.out.out 0 rfl))
            have HRO : Hid ((gUl (.slice oa oX.length ok) oX).at_ _ (fun b => D b ∨ w.heap.size ≤ b)) := Lib.hid (E8.out.out 1 rfl)
            have b6 := E8.out.bx 1 rfl
            have c6_0 := b6.cell 0 rfl
            clear b6
            go_wp2
            have hfin := E8.out
            have q7 := (hfin.bx 1 rfl).cell 0 rfl
            exact bodyPost_ret (v := (.tuple #[.agg #[.slice oa oX.length ok], .slice qa qX.length qk, .int .i64 0])) (by simp [results, Try.results20, go_sem, q7]) rfl ⟨⟨oa, ok, oX, qa, qk, qX, by rw [HR.out.2.2], HR.out.1, HR.out.2.1, HRO, HRQ⟩, hfin.bel⟩
          have hk : k < s.lv.length := lt_of hw b1
          have t6 : decide ((k : Int) < (s.lv.length : Int)) = true := decide_eq_true (by omega)
          have t7 : decide (k < s.lv.length) = true := decide_eq_true (by omega)
          have hkI : (k : Int) < (s.lv.length : Int) := by omega
          clear hw
          have hbd := HBD.out
          have b3 := EL.out.bx 2 rfl
          have c3 := b3.cell 77 (spc_tail HS.out _ _).1
          clear b3
          go_upto_region 13 with (fail)
          obtain ⟨xab, xao, rfl⟩ := Rw.addr (EL.out.fc 2 rfl) (by omega)
          obtain ⟨⟨c0, c1, c2⟩, ce⟩ : ∃ c, s.lv[k] = c := ⟨_, rfl⟩
          have cE := Lib.hid ce
          clear ce
          have HCB : Hid (leafB s k = c0) := Lib.hid (by rw [leafB_eq hk, cE.out])
          have HFE : Hid (findK (putN s (X.map Uv.u) k).1 (cInt s.cn 4) (leafB s k) = findK (X.map Uv.u) (cInt s.cn 4) c0) := Lib.hid (by rw [putN_find HV.out.2.2 HT.out hk, HCB.out])
          obtain ⟨fd, hfd⟩ : ∃ fd, findK (X.map Uv.u) (cInt s.cn 4) c0 = fd := ⟨_, rfl⟩
          have HFK := Lib.hid hfd
          clear hfd
          cases fd with
          | some y =>
            obtain ⟨i, hi⟩ : ∃ i, lb (X.map Uv.u) (cInt s.cn 4) c0 = i := ⟨_, rfl⟩
            have HI := Lib.hid hi
            have HFR : Hid (FindR (X.map Uv.u) (cInt s.cn 4) c0 (i : Int)) := Lib.hid (by rw [← hi]; exact findR_some HV.out.2.2 HFK.out)
            clear hi
            have HAT : Hid ((X.map Uv.u)[i]? = some y) := Lib.hid (by rw [← HI.out]; exact findK_at HV.out.2.2 HFK.out)
            have hii : i < X.length := by have h := (List.getElem?_eq_some_iff.1 HAT.out).1; rwa [List.length_map] at h
            have hiI : (i : Int) < (X.length : Int) := by omega
            have hi0 : decide (0 ≤ (i : Int)) = true := decide_eq_true (by omega)
            have hi0b : (0 : Int) ≤ (i : Int) := by omega
            go_wp2_with fail
            have E8 : Hid (Env D w ((wz.heap.size, 25, [.slice oa oX.length ok]) :: (w.heap.size + 1 + 1, 25, [.slice none 0 0]) :: (w.heap.size + 1, 41, spc s (.slice (some ⟨xab, xao, none⟩) s.lv.length xk) (.slice xc s.pa.length xj)) :: (w.heap.size, 25, [.slice ta X.length tk]) :: qs) [.gn (gUd qX), .gn (gUl (.slice oa oX.length ok) oX), .rw (.slice (some ⟨xab, xao, none⟩) s.lv.length xk) s.lv.length 3 (lcl s.lv), .rw (.slice xc s.pa.length xj) s.pa.length 32 s.pa.flatten, .gn (gSp s (.slice (some ⟨xab, xao, none⟩) s.lv.length xk) (.slice xc s.pa.length xj)), .gn (gUl (.slice ta X.length tk) X)] (wr.drew)) := Lib.hid EL.out.drew
            clear c3 EL
            refine wp_regionU (S := fun w' => w'.cell? ⟨w.heap.size, 0, none⟩ = some (.slice ta X.length tk) ∧ w'.cell? ⟨xab, xao + k * 3, none⟩ = some (.int .i64 c0) ∧ w'.cell? ⟨w.heap.size + 1, 4, none⟩ = some (.int .i64 (cInt s.cn 4)) ∧ w'.cell? ⟨w.heap.size + 1, 77, none⟩ = some (.slice (some ⟨xab, xao, none⟩) s.lv.length xk)) [] (by kernel_rfl) (⟨((E8.out.bx 3 rfl).cell 0 rfl), (by have h := ((E8.out.fc 2 rfl)).triple (k := k) rfl hk; rw [cE.out] at h; exact h.1), ((E8.out.bx 2 rfl).cell 4 (spc_ca HS.out _ _ (by omega))), ((E8.out.bx 2 rfl).cell 77 (spc_tail HS.out _ _).1)⟩) (fun hHeld => ?_)
            generalize wr.drew = w3 at *
            refine uTake (i := 0) (some 45) (v := ?_) rfl rfl (by kernel_rfl) (by kernel_rfl) (by kernel_rfl) (by kernel_rfl) (fun _ _ _ h => h) (by rfl) (by assumption) ?_ ?_
            rotate_left
            · (intro wS hSw; (try dsimp only at hSw); go_simp; try with_reducible rfl)
            try simp only [Act.put, List.setIfInBounds_toArray, List.set_cons_zero, List.set_cons_succ]
            refine uTake (i := 1) (some 46) (v := ?_) rfl rfl (by kernel_rfl) (by kernel_rfl) (by kernel_rfl) (by kernel_rfl) (fun _ _ _ h => h) (by rfl) (by assumption) ?_ ?_
            rotate_left
            · (intro wS hSw; (try dsimp only at hSw); go_simp; try with_reducible rfl)
            try simp only [Act.put, List.setIfInBounds_toArray, List.set_cons_zero, List.set_cons_succ]
            refine uTake (i := 2) (some 47) (v := ?_) rfl rfl (by kernel_rfl) (by kernel_rfl) (by kernel_rfl) (by kernel_rfl) (fun _ _ _ h => h) (by rfl) (by assumption) ?_ ?_
            rotate_left
            · (intro wS hSw; (try dsimp only at hSw); go_simp; try with_reducible rfl)
            try simp only [Act.put, List.setIfInBounds_toArray, List.set_cons_zero, List.set_cons_succ]
            refine uTake (i := 3) (some 48) (v := ?_) rfl rfl (by kernel_rfl) (by kernel_rfl) (by kernel_rfl) (by kernel_rfl) (fun _ _ _ h => h) (by rfl) (by assumption) ?_ ?_
            rotate_left
            · (intro wS hSw; (try dsimp only at hSw); go_simp; try with_reducible rfl)
            try simp only [Act.put, List.setIfInBounds_toArray, List.set_cons_zero, List.set_cons_succ]
            refine uTake (i := 4) (some 49) (v := ?_) rfl rfl (by kernel_rfl) (by kernel_rfl) (by kernel_rfl) (by kernel_rfl) (fun _ _ _ h => h) (by rfl) (by assumption) ?_ ?_
            rotate_left
            · (intro wS hSw; (try dsimp only at hSw); go_simp; try with_reducible rfl)
            try simp only [Act.put, List.setIfInBounds_toArray, List.set_cons_zero, List.set_cons_succ]
            refine uTake (i := 5) (some 50) (v := ?_) rfl rfl (by kernel_rfl) (by kernel_rfl) (by kernel_rfl) (by kernel_rfl) (fun _ _ _ h => h) (by rfl) (by assumption) ?_ ?_
            rotate_left
            · (intro wS hSw; (try dsimp only at hSw); go_simp; try with_reducible rfl)
            try simp only [Act.put, List.setIfInBounds_toArray, List.set_cons_zero, List.set_cons_succ]
            refine uTake (i := 6) (some 51) (v := ?_) rfl rfl (by kernel_rfl) (by kernel_rfl) (by kernel_rfl) (by kernel_rfl) (fun _ _ _ h => h) (by rfl) (by assumption) ?_ ?_
            rotate_left
            · (intro wS hSw; (try dsimp only at hSw); go_simp; try with_reducible rfl)
            try simp only [Act.put, List.setIfInBounds_toArray, List.set_cons_zero, List.set_cons_succ]
            refine uTake (i := 7) (some 52) (v := ?_) rfl rfl (by kernel_rfl) (by kernel_rfl) (by kernel_rfl) (by kernel_rfl) (fun _ _ _ h => h) (by rfl) (by assumption) ?_ ?_
            rotate_left
            · (intro wS hSw; (try dsimp only at hSw); go_simp; try with_reducible rfl)
            try simp only [Act.put, List.setIfInBounds_toArray, List.set_cons_zero, List.set_cons_succ]
            refine uTake (i := 8) (some 53) (v := ?_) rfl rfl (by kernel_rfl) (by kernel_rfl) (by kernel_rfl) (by kernel_rfl) (fun _ _ _ h => h) (by rfl) (by assumption) ?_ ?_
            rotate_left
            · (intro wS hSw; (try dsimp only at hSw); go_simp; try with_reducible rfl)
            try simp only [Act.put, List.setIfInBounds_toArray, List.set_cons_zero, List.set_cons_succ]
            refine uTake (i := 9) (some 54) (v := ?_) rfl rfl (by kernel_rfl) (by kernel_rfl) (by kernel_rfl) (by kernel_rfl) (fun _ _ _ h => h) (by rfl) (by assumption) ?_ ?_
            rotate_left
            · (intro wS hSw; (try dsimp only at hSw); go_simp; try with_reducible rfl)
            try simp only [Act.put, List.setIfInBounds_toArray, List.set_cons_zero, List.set_cons_succ]
            refine uReady (rs := [10]) (by kernel_rfl) (by simp) ?_
            refine ReadyU.cons rfl (fun KK hKK => ?_) ReadyU.nil
            go_simp
            refine (rfind_c X (cInt s.cn 4) c0 (E8.out.fc 5 rfl) (by omega) HFR.out).mono ?_
            rintro e w4 ⟨rfl, hb⟩
            have E9 : Hid (Env D w ((wz.heap.size, 25, [.slice oa oX.length ok]) :: (w.heap.size + 1 + 1, 25, [.slice none 0 0]) :: (w.heap.size + 1, 41, spc s (.slice (some ⟨xab, xao, none⟩) s.lv.length xk) (.slice xc s.pa.length xj)) :: (w.heap.size, 25, [.slice ta X.length tk]) :: qs) [.gn (gUd qX), .gn (gUl (.slice oa oX.length ok) oX), .rw (.slice (some ⟨xab, xao, none⟩) s.lv.length xk) s.lv.length 3 (lcl s.lv), .rw (.slice xc s.pa.length xj) s.pa.length 32 s.pa.flatten, .gn (gSp s (.slice (some ⟨xab, xao, none⟩) s.lv.length xk) (.slice xc s.pa.length xj)), .gn (gUl (.slice ta X.length tk) X)] w4) := Lib.hid (E8.out.below hb)
            clear E8 hb
            (try dsimp only)
            clear hHeld
            refine hKK.out _ _ (⟨((E9.out.bx 3 rfl).cell 0 rfl), (by have h := ((E9.out.fc 2 rfl)).triple (k := k) rfl hk; rw [cE.out] at h; exact h.1), ((E9.out.bx 2 rfl).cell 4 (spc_ca HS.out _ _ (by omega))), ((E9.out.bx 2 rfl).cell 77 (spc_tail HS.out _ _).1)⟩) (fun hHeld => ?_)
            clear hKK KK
            try simp only [Act.put, List.setIfInBounds_toArray, List.set_cons_zero, List.set_cons_succ]
            refine uTake (i := 11) (some 11) (v := ?_) rfl rfl (by kernel_rfl) (by kernel_rfl) (by kernel_rfl) (by kernel_rfl) (fun _ _ _ h => h) (by rfl) (by assumption) ?_ ?_
            rotate_left
            · (intro wS hSw; (try dsimp only at hSw); go_simp; try with_reducible rfl)
            try simp only [Act.put, List.setIfInBounds_toArray, List.set_cons_zero, List.set_cons_succ]
            refine uDone (by kernel_rfl) ?_ _
            go_upto_region 15 with (fail)
            obtain ⟨tab, tao, rfl⟩ := gUl.addr (E9.out.fc 5 rfl) (List.ne_nil_of_length_pos (Nat.lt_of_le_of_lt (Nat.zero_le _) hii))
            obtain ⟨p, pe⟩ : ∃ x, X[i] = x := ⟨_, rfl⟩
            have pE := Lib.hid pe
            clear pe
            have E10 : Hid (Env D w ((wz.heap.size, 25, [.slice oa oX.length ok]) :: (w.heap.size + 1 + 1, 25, [.slice none 0 0]) :: (w.heap.size + 1, 41, spc s (.slice (some ⟨xab, xao, none⟩) s.lv.length xk) (.slice xc s.pa.length xj)) :: (w.heap.size, 25, [.slice (some ⟨tab, tao, none⟩) X.length tk]) :: qs) [.gn (gRg tab (tao + i * 83) (usc p.u p.la p.pa)), .gn (gSp p.u.sp p.la p.pa), .gn (gUd qX), .gn (gUl (.slice oa oX.length ok) oX), .rw (.slice (some ⟨xab, xao, none⟩) s.lv.length xk) s.lv.length 3 (lcl s.lv), .rw (.slice xc s.pa.length xj) s.pa.length 32 s.pa.flatten, .gn (gSp s (.slice (some ⟨xab, xao, none⟩) s.lv.length xk) (.slice xc s.pa.length xj)), .gn (gUl (.slice (some ⟨tab, tao, none⟩) X.length tk) X)] _) := Lib.hid (E9.out.elU 5 rfl hii pE.out)
            clear E9
            have pS := Lib.hid (E10.out.spOk 1 rfl)
            have pN : Hid (∀ v ∈ usc p.u p.la p.pa, v.oneCell' = true) := Lib.hid (usc_one pS.out (Rw.oneV (E10.out.fc 1 rfl).2.1) (Rw.oneV (E10.out.fc 1 rfl).2.2))
            have HPY : Hid (p.u = y) := Lib.hid (by have h := map_get hii pE.out; rw [HAT.out] at h; exact (Option.some.inj h).symm)
            have HQL : Hid (qX.length + 1 ≤ 1000000) := Lib.hid (by omega)
            have b4 := E10.out.bx 3 rfl
            have c4_0 := b4.cell 0 rfl
            clear b4
            have r5 := Lib.hid (E10.out.fc 0 rfl).2
            have E11 : Hid (Env D w ((w4.heap.size, 44, usc p.u p.la p.pa) :: (wz.heap.size, 25, [.slice oa oX.length ok]) :: (w.heap.size + 1 + 1, 25, [.slice none 0 0]) :: (w.heap.size + 1, 41, spc s (.slice (some ⟨xab, xao, none⟩) s.lv.length xk) (.slice xc s.pa.length xj)) :: (w.heap.size, 25, [.slice (some ⟨tab, tao, none⟩) X.length tk]) :: qs) [.gn (gRg tab (tao + i * 83) (usc p.u p.la p.pa)), .gn (gSp p.u.sp p.la p.pa), .gn (gUd qX), .gn (gUl (.slice oa oX.length ok) oX), .rw (.slice (some ⟨xab, xao, none⟩) s.lv.length xk) s.lv.length 3 (lcl s.lv), .rw (.slice xc s.pa.length xj) s.pa.length 32 s.pa.flatten, .gn (gSp s (.slice (some ⟨xab, xao, none⟩) s.lv.length xk) (.slice xc s.pa.length xj)), .gn (gUl (.slice (some ⟨tab, tao, none⟩) X.length tk) X)] _) := Lib.hid ((E10.out.push 44 (usc p.u p.la p.pa) (w4.heap.size) (by simp)))
            go_wp2_with (first | (with_reducible refine wpl_load_b bUse tab (tao + i * 83) ?_ ?_ (usc p.u p.la p.pa) (usc_len pS.out _ _) r5.out ?_; (· exact ⟨_, rfl, rfl⟩); (· kernel_rfl)) | (with_reducible refine wpl_slice1 ?_ (usc p.u p.la p.pa) (usc_len pS.out _ _) ?_ ?_; (· rfl); (· exact ⟨_, rfl, rfl⟩)) | (at_builtin; refine wpl_app1 (c := 1) tiUse rfl _ _ rfl E11.out (A := [(w4.heap.size, 44, usc p.u p.la p.pa), (wz.heap.size, 25, [.slice oa oX.length ok]), (w.heap.size + 1 + 1, 25, [.slice none 0 0]), (w.heap.size + 1, 41, spc s (.slice (some ⟨xab, xao, none⟩) s.lv.length xk) (.slice xc s.pa.length xj)), (w.heap.size, 25, [.slice (some ⟨tab, tao, none⟩) X.length tk])]) (sg := qs) (B' := []) (F := ((w4.heap.size, 44, usc p.u p.la p.pa) :: (wz.heap.size, 25, [.slice oa oX.length ok]) :: (w.heap.size + 1 + 1, 25, [.slice none 0 0]) :: (w.heap.size + 1, 41, spc s (.slice (some ⟨xab, xao, none⟩) s.lv.length xk) (.slice xc s.pa.length xj)) :: (w.heap.size, 25, [.slice (some ⟨tab, tao, none⟩) X.length tk]) :: qs)) (by simp) (qO.out.os rfl) rfl rfl (SrcN.box (m := 1) (E11.out.bx 0 rfl) (usc_len pS.out _ _) pN.out) HQL.out ?_))
            intro zg zp zc w5 zH zT zE
            have zO := Lib.hid (OU.app (x := Uv.mk p.u p.la p.pa) (g' := zg) (cs' := zc) (cap' := zp) qO.out rfl zH.out zT.out)
            have E12 : Hid (Env D w ((w4.heap.size, 44, usc p.u p.la p.pa) :: (wz.heap.size, 25, [.slice oa oX.length ok]) :: (w.heap.size + 1 + 1, 25, [.slice none 0 0]) :: (w.heap.size + 1, 41, spc s (.slice (some ⟨xab, xao, none⟩) s.lv.length xk) (.slice xc s.pa.length xj)) :: (w.heap.size, 25, [.slice (some ⟨tab, tao, none⟩) X.length tk]) :: [(zg, 44, zc)]) [.gn (gUd (qX ++ [Uv.mk p.u p.la p.pa])), .gn (gRg tab (tao + i * 83) (usc p.u p.la p.pa)), .gn (gSp p.u.sp p.la p.pa), .gn (gUd qX), .gn (gUl (.slice oa oX.length ok) oX), .rw (.slice (some ⟨xab, xao, none⟩) s.lv.length xk) s.lv.length 3 (lcl s.lv), .rw (.slice xc s.pa.length xj) s.pa.length 32 s.pa.flatten, .gn (gSp s (.slice (some ⟨xab, xao, none⟩) s.lv.length xk) (.slice xc s.pa.length xj)), .gn (gUl (.slice (some ⟨tab, tao, none⟩) X.length tk) X)] w5) := Lib.hid ((zE.out.note (.gn (gUd (qX ++ [Uv.mk p.u p.la p.pa]))) (gUd.app (x := Uv.mk p.u p.la p.pa) (zE.out.fc 2 rfl) (zE.out.fc 1 rfl))).cast (by simp))
            clear c4_0 r5 E10 E11 zE zH zT qO
            have HX2 : Hid (oX.map Uv.u = (putN s (X.map Uv.u) (k + 1)).1) := Lib.hid (by rw [putN_some (by rw [HFE.out]; exact HFK.out)]; exact HX.out)
            have HQ2 : Hid ((qX ++ [Uv.mk p.u p.la p.pa]).map Uv.u = (putN s (X.map Uv.u) (k + 1)).2) := Lib.hid (by rw [putN_some (by rw [HFE.out]; exact HFK.out), List.map_append, HQ.out]; show _ ++ [p.u] = _; rw [HPY.out])
            have hZ := (E12.out.drop)
            have EZ : Hid (Env D w ((wz.heap.size, 25, [.slice oa oX.length ok]) :: (w.heap.size + 1 + 1, 25, [.slice none 0 0]) :: (w.heap.size + 1, 41, spc s (.slice (some ⟨xab, xao, none⟩) s.lv.length xk) (.slice xc s.pa.length xj)) :: (w.heap.size, 25, [.slice (some ⟨tab, tao, none⟩) X.length tk]) :: [(zg, 44, zc)]) [.gn (gUd (qX ++ [Uv.mk p.u p.la p.pa])), .gn (gUl (.slice oa oX.length ok) oX), .rw (.slice (some ⟨xab, xao, none⟩) s.lv.length xk) s.lv.length 3 (lcl s.lv), .rw (.slice xc s.pa.length xj) s.pa.length 32 s.pa.flatten, .gn (gSp s (.slice (some ⟨xab, xao, none⟩) s.lv.length xk) (.slice xc s.pa.length xj)), .gn (gUl (.slice (some ⟨tab, tao, none⟩) X.length tk) X)] _) := Lib.hid ⟨hZ.bel, hZ.box, ⟨hZ.fc 0 rfl, ⟨hZ.fc 4 rfl, ⟨hZ.fc 5 rfl, ⟨hZ.fc 6 rfl, ⟨hZ.fc 7 rfl, ⟨hZ.fc 8 rfl, trivial⟩⟩⟩⟩⟩⟩⟩
            clear hZ
            go_wp2_with (first | (with_reducible refine wpl_slice1 ?_ (usc p.u p.la p.pa) (usc_len pS.out _ _) ?_ ?_; (· rfl); (· exact ⟨_, rfl, rfl⟩)))
            go_roundg (s.lv.length - (k + 1))
            case rel => exact ⟨k + 1, oa, ok, oX, [(zg, 44, zc)], zc, (some ⟨zg, 0, none⟩), zp, qX ++ [Uv.mk p.u p.la p.pa], rfl, (OU.val rfl), Lib.hid (EZ.out.cast (by simp)), (OU.len' zO), Lib.hid ⟨⟨by omega, rfl⟩, HX2.out, HQ2.out⟩⟩
            case measure => exact by omega
          | none =>
            have HFR : Hid (FindR (X.map Uv.u) (cInt s.cn 4) c0 (-1)) := Lib.hid (findR_none HFK.out)
            go_wp2_with fail
            have E8 : Hid (Env D w ((wz.heap.size, 25, [.slice oa oX.length ok]) :: (w.heap.size + 1 + 1, 25, [.slice none 0 0]) :: (w.heap.size + 1, 41, spc s (.slice (some ⟨xab, xao, none⟩) s.lv.length xk) (.slice xc s.pa.length xj)) :: (w.heap.size, 25, [.slice ta X.length tk]) :: qs) [.gn (gUd qX), .gn (gUl (.slice oa oX.length ok) oX), .rw (.slice (some ⟨xab, xao, none⟩) s.lv.length xk) s.lv.length 3 (lcl s.lv), .rw (.slice xc s.pa.length xj) s.pa.length 32 s.pa.flatten, .gn (gSp s (.slice (some ⟨xab, xao, none⟩) s.lv.length xk) (.slice xc s.pa.length xj)), .gn (gUl (.slice ta X.length tk) X)] (wr.drew)) := Lib.hid EL.out.drew
            clear c3 EL
            refine wp_regionU (S := fun w' => w'.cell? ⟨w.heap.size, 0, none⟩ = some (.slice ta X.length tk) ∧ w'.cell? ⟨xab, xao + k * 3, none⟩ = some (.int .i64 c0) ∧ w'.cell? ⟨w.heap.size + 1, 4, none⟩ = some (.int .i64 (cInt s.cn 4)) ∧ w'.cell? ⟨w.heap.size + 1, 77, none⟩ = some (.slice (some ⟨xab, xao, none⟩) s.lv.length xk)) [] (by kernel_rfl) (⟨((E8.out.bx 3 rfl).cell 0 rfl), (by have h := ((E8.out.fc 2 rfl)).triple (k := k) rfl hk; rw [cE.out] at h; exact h.1), ((E8.out.bx 2 rfl).cell 4 (spc_ca HS.out _ _ (by omega))), ((E8.out.bx 2 rfl).cell 77 (spc_tail HS.out _ _).1)⟩) (fun hHeld => ?_)
            generalize wr.drew = w3 at *
            refine uTake (i := 0) (some 45) (v := ?_) rfl rfl (by kernel_rfl) (by kernel_rfl) (by kernel_rfl) (by kernel_rfl) (fun _ _ _ h => h) (by rfl) (by assumption) ?_ ?_
            rotate_left
            · (intro wS hSw; (try dsimp only at hSw); go_simp; try with_reducible rfl)
            try simp only [Act.put, List.setIfInBounds_toArray, List.set_cons_zero, List.set_cons_succ]
            refine uTake (i := 1) (some 46) (v := ?_) rfl rfl (by kernel_rfl) (by kernel_rfl) (by kernel_rfl) (by kernel_rfl) (fun _ _ _ h => h) (by rfl) (by assumption) ?_ ?_
            rotate_left
            · (intro wS hSw; (try dsimp only at hSw); go_simp; try with_reducible rfl)
            try simp only [Act.put, List.setIfInBounds_toArray, List.set_cons_zero, List.set_cons_succ]
            refine uTake (i := 2) (some 47) (v := ?_) rfl rfl (by kernel_rfl) (by kernel_rfl) (by kernel_rfl) (by kernel_rfl) (fun _ _ _ h => h) (by rfl) (by assumption) ?_ ?_
            rotate_left
            · (intro wS hSw; (try dsimp only at hSw); go_simp; try with_reducible rfl)
            try simp only [Act.put, List.setIfInBounds_toArray, List.set_cons_zero, List.set_cons_succ]
            refine uTake (i := 3) (some 48) (v := ?_) rfl rfl (by kernel_rfl) (by kernel_rfl) (by kernel_rfl) (by kernel_rfl) (fun _ _ _ h => h) (by rfl) (by assumption) ?_ ?_
            rotate_left
            · (intro wS hSw; (try dsimp only at hSw); go_simp; try with_reducible rfl)
            try simp only [Act.put, List.setIfInBounds_toArray, List.set_cons_zero, List.set_cons_succ]
            refine uTake (i := 4) (some 49) (v := ?_) rfl rfl (by kernel_rfl) (by kernel_rfl) (by kernel_rfl) (by kernel_rfl) (fun _ _ _ h => h) (by rfl) (by assumption) ?_ ?_
            rotate_left
            · (intro wS hSw; (try dsimp only at hSw); go_simp; try with_reducible rfl)
            try simp only [Act.put, List.setIfInBounds_toArray, List.set_cons_zero, List.set_cons_succ]
            refine uTake (i := 5) (some 50) (v := ?_) rfl rfl (by kernel_rfl) (by kernel_rfl) (by kernel_rfl) (by kernel_rfl) (fun _ _ _ h => h) (by rfl) (by assumption) ?_ ?_
            rotate_left
            · (intro wS hSw; (try dsimp only at hSw); go_simp; try with_reducible rfl)
            try simp only [Act.put, List.setIfInBounds_toArray, List.set_cons_zero, List.set_cons_succ]
            refine uTake (i := 6) (some 51) (v := ?_) rfl rfl (by kernel_rfl) (by kernel_rfl) (by kernel_rfl) (by kernel_rfl) (fun _ _ _ h => h) (by rfl) (by assumption) ?_ ?_
            rotate_left
            · (intro wS hSw; (try dsimp only at hSw); go_simp; try with_reducible rfl)
            try simp only [Act.put, List.setIfInBounds_toArray, List.set_cons_zero, List.set_cons_succ]
            refine uTake (i := 7) (some 52) (v := ?_) rfl rfl (by kernel_rfl) (by kernel_rfl) (by kernel_rfl) (by kernel_rfl) (fun _ _ _ h => h) (by rfl) (by assumption) ?_ ?_
            rotate_left
            · (intro wS hSw; (try dsimp only at hSw); go_simp; try with_reducible rfl)
            try simp only [Act.put, List.setIfInBounds_toArray, List.set_cons_zero, List.set_cons_succ]
            refine uTake (i := 8) (some 53) (v := ?_) rfl rfl (by kernel_rfl) (by kernel_rfl) (by kernel_rfl) (by kernel_rfl) (fun _ _ _ h => h) (by rfl) (by assumption) ?_ ?_
            rotate_left
            · (intro wS hSw; (try dsimp only at hSw); go_simp; try with_reducible rfl)
            try simp only [Act.put, List.setIfInBounds_toArray, List.set_cons_zero, List.set_cons_succ]
            refine uTake (i := 9) (some 54) (v := ?_) rfl rfl (by kernel_rfl) (by kernel_rfl) (by kernel_rfl) (by kernel_rfl) (fun _ _ _ h => h) (by rfl) (by assumption) ?_ ?_
            rotate_left
            · (intro wS hSw; (try dsimp only at hSw); go_simp; try with_reducible rfl)
            try simp only [Act.put, List.setIfInBounds_toArray, List.set_cons_zero, List.set_cons_succ]
            refine uReady (rs := [10]) (by kernel_rfl) (by simp) ?_
            refine ReadyU.cons rfl (fun KK hKK => ?_) ReadyU.nil
            go_simp
            refine (rfind_c X (cInt s.cn 4) c0 (E8.out.fc 5 rfl) (by omega) HFR.out).mono ?_
            rintro e w4 ⟨rfl, hb⟩
            have E9 : Hid (Env D w ((wz.heap.size, 25, [.slice oa oX.length ok]) :: (w.heap.size + 1 + 1, 25, [.slice none 0 0]) :: (w.heap.size + 1, 41, spc s (.slice (some ⟨xab, xao, none⟩) s.lv.length xk) (.slice xc s.pa.length xj)) :: (w.heap.size, 25, [.slice ta X.length tk]) :: qs) [.gn (gUd qX), .gn (gUl (.slice oa oX.length ok) oX), .rw (.slice (some ⟨xab, xao, none⟩) s.lv.length xk) s.lv.length 3 (lcl s.lv), .rw (.slice xc s.pa.length xj) s.pa.length 32 s.pa.flatten, .gn (gSp s (.slice (some ⟨xab, xao, none⟩) s.lv.length xk) (.slice xc s.pa.length xj)), .gn (gUl (.slice ta X.length tk) X)] w4) := Lib.hid (E8.out.below hb)
            clear E8 hb
            (try dsimp only)
            clear hHeld
            refine hKK.out _ _ (⟨((E9.out.bx 3 rfl).cell 0 rfl), (by have h := ((E9.out.fc 2 rfl)).triple (k := k) rfl hk; rw [cE.out] at h; exact h.1), ((E9.out.bx 2 rfl).cell 4 (spc_ca HS.out _ _ (by omega))), ((E9.out.bx 2 rfl).cell 77 (spc_tail HS.out _ _).1)⟩) (fun hHeld => ?_)
            clear hKK KK
            try simp only [Act.put, List.setIfInBounds_toArray, List.set_cons_zero, List.set_cons_succ]
            refine uTake (i := 11) (some 11) (v := ?_) rfl rfl (by kernel_rfl) (by kernel_rfl) (by kernel_rfl) (by kernel_rfl) (fun _ _ _ h => h) (by rfl) (by assumption) ?_ ?_
            rotate_left
            · (intro wS hSw; (try dsimp only at hSw); go_simp; try with_reducible rfl)
            try simp only [Act.put, List.setIfInBounds_toArray, List.set_cons_zero, List.set_cons_succ]
            refine uDone (by kernel_rfl) ?_ _
            obtain ⟨nu, hnu⟩ : ∃ nu : Us, nu = ⟨cInt s.cn 4, c0, s, (k : Int)⟩ := ⟨_, rfl⟩
            have HNU := Lib.hid hnu
            have HNS2 : Hid (SpOk nu.sp) := Lib.hid (by rw [hnu]; exact HS.out)
            have HNG : Hid (nu = useOf s k) := Lib.hid (by rw [hnu]; unfold useOf; rw [HCB.out])
            have HNK : Hid (nu.ua = cInt s.cn 4 ∧ nu.ub = leafB s k) := Lib.hid (by rw [hnu, HCB.out]; exact ⟨rfl, rfl⟩)
            clear hnu
            go_upto_region 16 with (fail)
            have NN : Hid (∀ v ∈ usc nu (.slice (some ⟨xab, xao, none⟩) s.lv.length xk) (.slice xc s.pa.length xj), v.oneCell' = true) := Lib.hid (usc_one HNS2.out rfl rfl)
            go_wp2_with fail
            have E10 : Hid (Env D w ((wz.heap.size, 25, [.slice oa oX.length ok]) :: (w.heap.size + 1 + 1, 25, [.slice none 0 0]) :: (w.heap.size + 1, 41, spc s (.slice (some ⟨xab, xao, none⟩) s.lv.length xk) (.slice xc s.pa.length xj)) :: (w.heap.size, 25, [.slice ta X.length tk]) :: qs) [.gn (gUd qX), .gn (gUl (.slice oa oX.length ok) oX), .rw (.slice (some ⟨xab, xao, none⟩) s.lv.length xk) s.lv.length 3 (lcl s.lv), .rw (.slice xc s.pa.length xj) s.pa.length 32 s.pa.flatten, .gn (gSp s (.slice (some ⟨xab, xao, none⟩) s.lv.length xk) (.slice xc s.pa.length xj)), .gn (gUl (.slice ta X.length tk) X)] (w4.drew)) := Lib.hid E9.out.drew
            clear E9
            refine wp_regionU (S := fun w' => w'.cell? ⟨wz.heap.size, 0, none⟩ = some (.slice oa oX.length ok) ∧ w'.cell? ⟨xab, xao + k * 3, none⟩ = some (.int .i64 c0) ∧ w'.cell? ⟨w.heap.size + 1, 4, none⟩ = some (.int .i64 (cInt s.cn 4)) ∧ w'.cell? ⟨w.heap.size + 1, 77, none⟩ = some (.slice (some ⟨xab, xao, none⟩) s.lv.length xk) ∧ w'.rangeAt (w.heap.size + 1) 0 (spc s (.slice (some ⟨xab, xao, none⟩) s.lv.length xk) (.slice xc s.pa.length xj))) [14] (by kernel_rfl) (⟨((E10.out.bx 0 rfl).cell 0 rfl), (by have h := ((E10.out.fc 2 rfl)).triple (k := k) rfl hk; rw [cE.out] at h; exact h.1), ((E10.out.bx 2 rfl).cell 4 (spc_ca HS.out _ _ (by omega))), ((E10.out.bx 2 rfl).cell 77 (spc_tail HS.out _ _).1), ((E10.out.bx 2 rfl).range (o := 0) (fun j hj => by rw [Nat.zero_add]))⟩) (fun hHeld => ?_)
            generalize w4.drew = w5 at *
            refine uTake (i := 0) (some 66) (v := ?_) rfl rfl (by kernel_rfl) (by kernel_rfl) (by kernel_rfl) (by kernel_rfl) (fun _ _ _ h => h) (by rfl) (by assumption) ?_ ?_
            rotate_left
            · (intro wS hSw; (try dsimp only at hSw); go_simp; try with_reducible rfl)
            try simp only [Act.put, List.setIfInBounds_toArray, List.set_cons_zero, List.set_cons_succ]
            refine uTake (i := 1) (some 67) (v := ?_) rfl rfl (by kernel_rfl) (by kernel_rfl) (by kernel_rfl) (by kernel_rfl) (fun _ _ _ h => h) (by rfl) (by assumption) ?_ ?_
            rotate_left
            · (intro wS hSw; (try dsimp only at hSw); go_simp; try with_reducible rfl)
            try simp only [Act.put, List.setIfInBounds_toArray, List.set_cons_zero, List.set_cons_succ]
            refine uTake (i := 2) (some 68) (v := ?_) rfl rfl (by kernel_rfl) (by kernel_rfl) (by kernel_rfl) (by kernel_rfl) (fun _ _ _ h => h) (by rfl) (by assumption) ?_ ?_
            rotate_left
            · (intro wS hSw; (try dsimp only at hSw); go_simp; try with_reducible rfl)
            try simp only [Act.put, List.setIfInBounds_toArray, List.set_cons_zero, List.set_cons_succ]
            refine uTake (i := 3) (some 69) (v := ?_) rfl rfl (by kernel_rfl) (by kernel_rfl) (by kernel_rfl) (by kernel_rfl) (fun _ _ _ h => h) (by rfl) (by assumption) ?_ ?_
            rotate_left
            · (intro wS hSw; (try dsimp only at hSw); go_simp; try with_reducible rfl)
            try simp only [Act.put, List.setIfInBounds_toArray, List.set_cons_zero, List.set_cons_succ]
            refine uTake (i := 4) (some 70) (v := ?_) rfl rfl (by kernel_rfl) (by kernel_rfl) (by kernel_rfl) (by kernel_rfl) (fun _ _ _ h => h) (by rfl) (by assumption) ?_ ?_
            rotate_left
            · (intro wS hSw; (try dsimp only at hSw); go_simp; try with_reducible rfl)
            try simp only [Act.put, List.setIfInBounds_toArray, List.set_cons_zero, List.set_cons_succ]
            refine uTake (i := 5) (some 71) (v := ?_) rfl rfl (by kernel_rfl) (by kernel_rfl) (by kernel_rfl) (by kernel_rfl) (fun _ _ _ h => h) (by rfl) (by assumption) ?_ ?_
            rotate_left
            · (intro wS hSw; (try dsimp only at hSw); go_simp; try with_reducible rfl)
            try simp only [Act.put, List.setIfInBounds_toArray, List.set_cons_zero, List.set_cons_succ]
            refine uTake (i := 6) (some 72) (v := ?_) rfl rfl (by kernel_rfl) (by kernel_rfl) (by kernel_rfl) (by kernel_rfl) (fun _ _ _ h => h) (by rfl) (by assumption) ?_ ?_
            rotate_left
            · (intro wS hSw; (try dsimp only at hSw); go_simp; try with_reducible rfl)
            try simp only [Act.put, List.setIfInBounds_toArray, List.set_cons_zero, List.set_cons_succ]
            refine uTake (i := 7) (some 73) (v := ?_) rfl rfl (by kernel_rfl) (by kernel_rfl) (by kernel_rfl) (by kernel_rfl) (fun _ _ _ h => h) (by rfl) (by assumption) ?_ ?_
            rotate_left
            · (intro wS hSw; (try dsimp only at hSw); go_simp; try with_reducible rfl)
            try simp only [Act.put, List.setIfInBounds_toArray, List.set_cons_zero, List.set_cons_succ]
            refine uTake (i := 8) (some 74) (v := ?_) rfl rfl (by kernel_rfl) (by kernel_rfl) (by kernel_rfl) (by kernel_rfl) (fun _ _ _ h => h) (by rfl) (by assumption) ?_ ?_
            rotate_left
            · (intro wS hSw; (try dsimp only at hSw); go_simp; try with_reducible rfl)
            try simp only [Act.put, List.setIfInBounds_toArray, List.set_cons_zero, List.set_cons_succ]
            refine uTake (i := 9) (some 75) (v := ?_) rfl rfl (by kernel_rfl) (by kernel_rfl) (by kernel_rfl) (by kernel_rfl) (fun _ _ _ h => h) (by rfl) (by assumption) ?_ ?_
            rotate_left
            · (intro wS hSw; (try dsimp only at hSw); go_simp; try with_reducible rfl)
            try simp only [Act.put, List.setIfInBounds_toArray, List.set_cons_zero, List.set_cons_succ]
            refine uTake (i := 10) (some 76) (v := .agg (spc s (.slice (some ⟨xab, xao, none⟩) s.lv.length xk) (.slice xc s.pa.length xj)).toArray) rfl rfl (by kernel_rfl) (by kernel_rfl) (by kernel_rfl) (by kernel_rfl) (fun _ _ _ h => h) (by rfl) (by assumption) ?_ ?_
            · (intro wS hSw; (try dsimp only at hSw); revert hSw; (try simp only [and_imp]); intros; exact exec_load_b bSpend _ rfl (w.heap.size + 1) 0 rfl (spc s (.slice (some ⟨xab, xao, none⟩) s.lv.length xk) (.slice xc s.pa.length xj)) (spc_len HS.out _ _) (by assumption))
            try simp only [Act.put, List.setIfInBounds_toArray, List.set_cons_zero, List.set_cons_succ]
            refine uTake (i := 11) (some 77) (v := ?_) rfl rfl (by kernel_rfl) (by kernel_rfl) (by kernel_rfl) (by kernel_rfl) (fun _ _ _ h => h) (by rfl) (by assumption) ?_ ?_
            rotate_left
            · (intro wS hSw; (try dsimp only at hSw); go_simp; try with_reducible rfl)
            try simp only [Act.put, List.setIfInBounds_toArray, List.set_cons_zero, List.set_cons_succ]
            refine uTake (i := 12) (some 78) (v := .agg (usc nu (.slice (some ⟨xab, xao, none⟩) s.lv.length xk) (.slice xc s.pa.length xj)).toArray) rfl rfl (by kernel_rfl) (by kernel_rfl) (by kernel_rfl) (by kernel_rfl) (fun _ _ _ h => h) (by rfl) (by assumption) ?_ ?_
            · (intro wS hSw; (try dsimp only at hSw); exact exec_use4 (la := (.slice (some ⟨xab, xao, none⟩) s.lv.length xk)) (pa := (.slice xc s.pa.length xj)) HNU.out HS.out ⟨_, _, _, _, rfl, rfl, rfl, rfl, rfl⟩)
            try simp only [Act.put, List.setIfInBounds_toArray, List.set_cons_zero, List.set_cons_succ]
            refine uReady (rs := [13]) (by kernel_rfl) (by simp) ?_
            refine ReadyU.cons rfl (fun KK hKK => ?_) ReadyU.nil
            go_simp
            refine (insert_c oX nu (E10.out.fc 1 rfl) (by rw [HNU.out]; exact (E10.out.fc 4 rfl)) (by omega)).mono ?_
            rintro e w6 ⟨⟨va, vk, vX, rfl, v1, vH⟩, hb⟩
            have E11 : Hid (Env D w ((wz.heap.size, 25, [.slice oa oX.length ok]) :: (w.heap.size + 1 + 1, 25, [.slice none 0 0]) :: (w.heap.size + 1, 41, spc s (.slice (some ⟨xab, xao, none⟩) s.lv.length xk) (.slice xc s.pa.length xj)) :: (w.heap.size, 25, [.slice ta X.length tk]) :: qs) [.gn (gUl (.slice va vX.length vk) vX), .gn (gUd qX), .gn (gUl (.slice oa oX.length ok) oX), .rw (.slice (some ⟨xab, xao, none⟩) s.lv.length xk) s.lv.length 3 (lcl s.lv), .rw (.slice xc s.pa.length xj) s.pa.length 32 s.pa.flatten, .gn (gSp s (.slice (some ⟨xab, xao, none⟩) s.lv.length xk) (.slice xc s.pa.length xj)), .gn (gUl (.slice ta X.length tk) X)] w6) := Lib.hid (E10.out.got (E10.out.below hb) (.gn (gUl (.slice va vX.length vk) vX)) vH.out)
            clear E10 hb vH
            have vL := Lib.hid v1; clear v1
            (try dsimp only)
            clear hHeld
            refine hKK.out _ _ (⟨((E11.out.bx 0 rfl).cell 0 rfl), (by have h := ((E11.out.fc 3 rfl)).triple (k := k) rfl hk; rw [cE.out] at h; exact h.1), ((E11.out.bx 2 rfl).cell 4 (spc_ca HS.out _ _ (by omega))), ((E11.out.bx 2 rfl).cell 77 (spc_tail HS.out _ _).1), ((E11.out.bx 2 rfl).range (o := 0) (fun j hj => by rw [Nat.zero_add]))⟩) (fun hHeld => ?_)
            clear hKK KK
            try simp only [Act.put, List.setIfInBounds_toArray, List.set_cons_zero, List.set_cons_succ]
            have b4 := E11.out.bx 0 rfl
            have c4_0 := b4.cell 0 rfl
            have f4_0 := b4.frozen 0
            clear b4
            refine uReady (rs := [14]) (by kernel_rfl) (by simp) ?_
            refine ReadyU.consU (by kernel_rfl) rfl (fun KK hKK => ?_) ReadyU.nil
            go_simp
            have E12 : Hid (Env D w ((wz.heap.size, 25, [.slice va vX.length vk]) :: (w.heap.size + 1 + 1, 25, [.slice none 0 0]) :: (w.heap.size + 1, 41, spc s (.slice (some ⟨xab, xao, none⟩) s.lv.length xk) (.slice xc s.pa.length xj)) :: (w.heap.size, 25, [.slice ta X.length tk]) :: qs) [.gn (gUl (.slice va vX.length vk) vX), .gn (gUd qX), .gn (gUl (.slice oa oX.length ok) oX), .rw (.slice (some ⟨xab, xao, none⟩) s.lv.length xk) s.lv.length 3 (lcl s.lv), .rw (.slice xc s.pa.length xj) s.pa.length 32 s.pa.flatten, .gn (gSp s (.slice (some ⟨xab, xao, none⟩) s.lv.length xk) (.slice xc s.pa.length xj)), .gn (gUl (.slice ta X.length tk) X)] _) := Lib.hid ((E11.out.set 0 0 (.slice va vX.length vk) rfl))
            (try dsimp only)
            (try clear hHeld)
            refine hKK.out _ _ ?_
            clear hKK KK
            try simp only [Act.put, List.setIfInBounds_toArray, List.set_cons_zero, List.set_cons_succ]
            refine uDone (by kernel_rfl) ?_ _
            have HX2 : Hid (vX.map Uv.u = (putN s (X.map Uv.u) (k + 1)).1) := Lib.hid (by rw [vL.out, putN_none (by rw [HFE.out]; exact HFK.out), HX.out, HNK.out.1, HNK.out.2, HNG.out])
            have HQ2 : Hid (qX.map Uv.u = (putN s (X.map Uv.u) (k + 1)).2) := Lib.hid (by rw [putN_none (by rw [HFE.out]; exact HFK.out)]; exact HQ.out)
            have hZ := E12.out
            have EZ : Hid (Env D w ((wz.heap.size, 25, [.slice va vX.length vk]) :: (w.heap.size + 1 + 1, 25, [.slice none 0 0]) :: (w.heap.size + 1, 41, spc s (.slice (some ⟨xab, xao, none⟩) s.lv.length xk) (.slice xc s.pa.length xj)) :: (w.heap.size, 25, [.slice ta X.length tk]) :: qs) [.gn (gUd qX), .gn (gUl (.slice va vX.length vk) vX), .rw (.slice (some ⟨xab, xao, none⟩) s.lv.length xk) s.lv.length 3 (lcl s.lv), .rw (.slice xc s.pa.length xj) s.pa.length 32 s.pa.flatten, .gn (gSp s (.slice (some ⟨xab, xao, none⟩) s.lv.length xk) (.slice xc s.pa.length xj)), .gn (gUl (.slice ta X.length tk) X)] _) := Lib.hid ⟨hZ.bel, hZ.box, ⟨hZ.fc 1 rfl, ⟨hZ.fc 0 rfl, ⟨hZ.fc 3 rfl, ⟨hZ.fc 4 rfl, ⟨hZ.fc 5 rfl, ⟨hZ.fc 6 rfl, trivial⟩⟩⟩⟩⟩⟩⟩
            clear hZ
            go_wp2
            go_roundg (s.lv.length - (k + 1))
            case rel => exact ⟨k + 1, va, vk, vX, qs, qc, _, _, qX, rfl, rfl, Lib.hid (EZ.out.cast (by simp)), qO, Lib.hid ⟨⟨by omega, rfl⟩, HX2.out, HQ2.out⟩⟩
            case measure => exact by omega
end Go.Proofs.Ytfnnfmefihiefaa

/- the small functions of the laws. -/
import Derived.Test.YtfnnfmefihiefaaSpT
namespace Go.Proofs.Ytfnnfmefihiefaa
open Go.RowKit
set_option linter.unusedVariables false
set_option linter.unusedSimpArgs false
theorem leaf_one {x : Int} : ∀ u ∈ [Value.int .i64 x, .int .i64 0, .int .i64 0], u.oneCell' = true := by
  intro u hu
  simp only [List.mem_cons, List.not_mem_nil, or_false] at hu
  rcases hu with rfl | rfl | rfl <;> rfl
def lv0 (l : List Int) : List (Int × Int × Int) := l.map (fun b => (b, 0, 0))
theorem spc_mk {m : Sp} {a n : Int} (l : List Int) (h : m = mkS a n []) (la pa : Value) : spc m la pa = spc (mkS a n l) la pa := by subst h; rfl
theorem gSp.mk {W : World} {D : Nat → Prop} {a n : Int} {l : List Int} {va : Option Addr} {vk : Nat} (ha : wI a) (hn : wI n) (h : Rw W D (.slice va l.length vk) l.length 3 (lcl (lv0 l))) : (gSp (mkS a n l) (.slice va l.length vk) nilV).at_ W D :=
  ⟨mkS_ok ha hn l, by rw [mkS_len]; exact h, Rw.nil _ _ _⟩
theorem OS.rwN {D0 : Nat → Prop} {w W : World} {F : List Bx} {G : List Fct} {sg : List Bx} {cs : List Value} {v : Value} {T : TypeId} {k n : Nat} (h : OS T k sg cs v n) (E : Env D0 w F G W) (hs : ∀ p ∈ sg, p ∈ F) {xs : List Value} (ht : cs.take (n * k) = xs) (h1 : ∀ u ∈ xs, u.oneCell' = true) : Rw W (fun b => w.heap.size ≤ b) v n k xs :=
  Rw.turn (OS.rw h (D0 := fun _ => False) (w := w) (G := []) ⟨E.bel, E.box, trivial⟩ hs ht h1) (Nat.le_refl _) (fun _ _ h => h.resolve_left id) (fun _ _ _ _ => rfl)
theorem gSp.ge {W : World} {D : Nat → Prop} {B : Nat} {s : Sp} {la pa : Value} (h : (gSp s la pa).at_ W (fun b => B ≤ b)) : (gSp s la pa).at_ W (fun b => D b ∨ B ≤ b) := (gSp s la pa).turn h (Nat.le_refl _) (fun _ _ h => .inr h) (fun _ _ _ _ => rfl)
theorem lcl_one (l : List (Int × Int × Int)) : ∀ u ∈ lcl l, u.oneCell' = true := by
  induction l with
  | nil => intro u hu; cases hu
  | cons x l ih =>
    have e : lcl (x :: l) = .int .i64 x.1 :: .int .i64 x.2.1 :: .int .i64 x.2.2 :: lcl l := rfl
    intro u hu
    rw [e] at hu
    simp only [List.mem_cons] at hu
    rcases hu with rfl | rfl | rfl | hu
    · rfl
    · rfl
    · rfl
    · exact ih u hu
set_option maxRecDepth 100000 in
set_option maxHeartbeats 4000000 in
theorem made_c {D : Nat → Prop} (a n : Int) (l : List Int) {xa : Option Addr} {xk : Nat} {w : World} (hx : Fct.at w D (.rw (.slice xa l.length xk) l.length 1 (icl l))) (wa0 : wI a ∧ wI n) (hm0 : l.length ≤ 1000) :
    Calls Try.prog 9 #[.int .i64 a, .int .i64 n, .slice xa l.length xk] w fun e w' => RetSp (fun b => w.heap.size ≤ b) (mkS a n l) e w' ∧ Below w.heap.size w w' := by
  have E0 : Hid (Env D w [] [.rw (.slice xa l.length xk) l.length 1 (icl l)] w) := Lib.hid ((Env.start D w).arg (.rw (.slice xa l.length xk) l.length 1 (icl l)) hx)
  clear hx
  go_enter Try.func9, Try.ntmps9
  have wa := Lib.hid wa0
  have hm := Lib.hid hm0
  clear wa0 hm0
  have hm9 := hm.out
  obtain ⟨m, hm1⟩ : ∃ m, m = mkS a n [] := ⟨_, rfl⟩
  have HM := Lib.hid hm1
  have HS : Hid (SpOk m) := Lib.hid (by rw [hm1]; exact mkS_ok wa.out.1 wa.out.2 [])
  clear hm1
  have HN : Hid (∀ v ∈ spc m nilV nilV, v.oneCell' = true) := Lib.hid (spc_one HS.out rfl rfl)
  have E1 : Hid (Env D w [(w.heap.size + 1, 41, spc zS nilV nilV), (w.heap.size, 41, spc zS nilV nilV)] [.rw (.slice xa l.length xk) l.length 1 (icl l)] _) := Lib.hid (((E0.out.push 41 (spc zS nilV nilV) (w.heap.size) (by simp)).push 41 (spc zS nilV nilV) (w.heap.size + 1) (by simp)))
  have b1 := Lib.hid (E1.out.bx 0 rfl)
  go_wp2_with (first | (with_reducible refine wpl_alloc_b ?_ ?_ _ zvSpend ?_; (· rfl); (· rfl)) | (with_reducible refine wpl_coin a ?_ ?_ ?_; (· rfl); (· exact ⟨_, rfl, rfl⟩)) | (with_reducible refine wpl_ctx n ?_ ?_ ?_; (· rfl); (· exact ⟨_, rfl, rfl⟩)) | (with_reducible refine wpl_mkS a n HM.out ?_ ?_ ?_; (· rfl); (· exact ⟨_, _, rfl, rfl, rfl⟩)) | (with_reducible refine wpl_store_b bSpend (w.heap.size + 1) 0 (spc m nilV nilV) ?_ ?_ (spc_len HS.out _ _) (Box.there b1.out (Nat.le_of_eq (spc_len zS_ok _ _).symm)) HN.out ?_; (· first | exact ⟨_, _, rfl, rfl, rfl⟩ | (refine ⟨_, _, rfl, ?_, ?_⟩ <;> simp [Act.eval, Act.put])); (· kernel_rfl)))
  have E2 : Hid (Env D w [(w.heap.size + 1, 41, spc m nilV nilV), (w.heap.size, 41, spc zS nilV nilV)] [.rw (.slice xa l.length xk) l.length 1 (icl l)] _) := Lib.hid ((E1.out.whole 0 (spc m nilV nilV) rfl ((spc_len HS.out _ _).trans (spc_len zS_ok _ _).symm)))
  go_loopg [17] (l.length) (fun gk s17 wr => ∃ (k : Nat) (vs : List Bx) (vc : List Value) (va : Option Addr) (vk : Nat), s17 = .int .i64 (k : Int) ∧ Hid (Env D w ((w.heap.size + 1, 41, spc m (.slice va k vk) nilV) :: (w.heap.size, 41, spc zS nilV nilV) :: vs) [.rw (.slice xa l.length xk) l.length 1 (icl l)] wr) ∧ Hid (OS 69 3 vs vc (.slice va k vk) k) ∧ Hid (vc.take (k * 3) = lcl (lv0 (l.take k))) ∧ Hid (k ≤ l.length ∧ gk = l.length - k))
  case atStart => exact ⟨0, [], [], none, 0, rfl, Lib.hid (E2.out.cast (by simp; try rfl)), Lib.hid (.inl ⟨rfl, rfl, rfl, rfl⟩), Lib.hid rfl, Lib.hid ⟨Nat.zero_le _, rfl⟩⟩
  case round =>
    clear b1 E0 E1 E2
    obtain ⟨k, vs, vc, va, vk, rfl, EL, vO, vT, HA⟩ := hrel
    obtain ⟨a1, a2⟩ := HA.out
    clear HA
    by_cases hy : k = l.length
    · skip
      have t6 : decide ((k : Int) < (l.length : Int)) = false := decide_eq_false (by omega)
      have t7 : decide (k < l.length) = false := decide_eq_false (by omega)
      have HY := Lib.hid hy
      clear hy
      have HN2 : Hid (∀ v ∈ spc m (.slice va k vk) nilV, v.oneCell' = true) := Lib.hid (spc_one HS.out rfl rfl)
      have b2 := EL.out.bx 0 rfl
      have r2 := Lib.hid (b2.range (o := 0) (fun j hj => by rw [Nat.zero_add]))
      clear b2
      have b3 := Lib.hid (EL.out.bx 1 rfl)
      go_wp2_with (first | (with_reducible refine wpl_alloc_b ?_ ?_ _ zvSpend ?_; (· rfl); (· rfl)) | (with_reducible refine wpl_coin a ?_ ?_ ?_; (· rfl); (· exact ⟨_, rfl, rfl⟩)) | (with_reducible refine wpl_ctx n ?_ ?_ ?_; (· rfl); (· exact ⟨_, rfl, rfl⟩)) | (with_reducible refine wpl_mkS a n HM.out ?_ ?_ ?_; (· rfl); (· exact ⟨_, _, rfl, rfl, rfl⟩)) | (with_reducible refine wpl_load_b bSpend (w.heap.size + 1) 0 ?_ ?_ (spc m (.slice va k vk) nilV) (spc_len HS.out _ _) r2.out ?_; (· exact ⟨_, rfl, rfl⟩); (· kernel_rfl)) | (with_reducible refine wpl_store_b bSpend w.heap.size 0 (spc m (.slice va k vk) nilV) ?_ ?_ (spc_len HS.out _ _) (Box.there b3.out (Nat.le_of_eq (spc_len zS_ok _ _).symm)) HN2.out ?_; (· first | exact ⟨_, _, rfl, rfl, rfl⟩ | (refine ⟨_, _, rfl, ?_, ?_⟩ <;> simp [Act.eval, Act.put])); (· kernel_rfl)))
      have E3 : Hid (Env D w ((w.heap.size + 1, 41, spc m (.slice va k vk) nilV) :: (w.heap.size, 41, spc m (.slice va k vk) nilV) :: vs) [.rw (.slice xa l.length xk) l.length 1 (icl l)] _) := Lib.hid ((EL.out.whole 1 (spc m (.slice va k vk) nilV) rfl ((spc_len HS.out _ _).trans (spc_len zS_ok _ _).symm)))
      have HRW := Lib.hid (OS.rwN vO.out E3.out (by intro p hp; simp [hp]) vT.out (lcl_one _))
      have HV : Hid (k = l.length) := HY
      exact bodyPost_ret (results_b bSpend Try.results9 _ (E3.out.bx 1 rfl) (spc_len HS.out _ _) rfl) rfl ⟨⟨_, _, by rw [spc_mk l HM.out], Lib.hid (by have h := HRW.out; rw [HV.out, List.take_length] at h; rw [HV.out]; exact gSp.mk wa.out.1 wa.out.2 h)⟩, E3.out.bel⟩
    have hk : k < l.length := lt_of hy a1
    have t6 : decide ((k : Int) < (l.length : Int)) = true := decide_eq_true (by omega)
    have t7 : decide (k < l.length) = true := decide_eq_true (by omega)
    have hkI : (k : Int) < (l.length : Int) := by omega
    clear hy
    go_upto_region 4 with (first | (with_reducible refine wpl_alloc_b ?_ ?_ _ zvSpend ?_; (· rfl); (· rfl)) | (with_reducible refine wpl_coin a ?_ ?_ ?_; (· rfl); (· exact ⟨_, rfl, rfl⟩)) | (with_reducible refine wpl_ctx n ?_ ?_ ?_; (· rfl); (· exact ⟨_, rfl, rfl⟩)) | (with_reducible refine wpl_mkS a n HM.out ?_ ?_ ?_; (· rfl); (· exact ⟨_, _, rfl, rfl, rfl⟩)))
    obtain ⟨xab, xao, rfl⟩ := Rw.addr (EL.out.fc 0 rfl) (by omega)
    have E3 : Hid (Env D w ((w.heap.size + 1, 41, spc m (.slice va k vk) nilV) :: (w.heap.size, 41, spc zS nilV nilV) :: vs) [.ce xab (xao + k) (.int .i64 l[k]), .rw (.slice (some ⟨xab, xao, none⟩) l.length xk) l.length 1 (icl l)] _) := Lib.hid (EL.out.elI 0 rfl rfl (k) hk)
    clear EL
    have c0 := (E3.out.fc 0 rfl).2
    obtain ⟨x, hx⟩ : ∃ x, l[k] = x := ⟨_, rfl⟩
    rw [hx] at c0
    have HX := Lib.hid hx
    clear hx
    have HKB : Hid (k + 1 ≤ 1000000) := Lib.hid (by omega)
    go_upto_region 5 with (first | (with_reducible refine wpl_alloc_b ?_ ?_ _ zvSpend ?_; (· rfl); (· rfl)) | (with_reducible refine wpl_coin a ?_ ?_ ?_; (· rfl); (· exact ⟨_, rfl, rfl⟩)) | (with_reducible refine wpl_ctx n ?_ ?_ ?_; (· rfl); (· exact ⟨_, rfl, rfl⟩)) | (with_reducible refine wpl_mkS a n HM.out ?_ ?_ ?_; (· rfl); (· exact ⟨_, _, rfl, rfl, rfl⟩)))
    have b2 := E3.out.bx 0 rfl
    have c2 := b2.cell 77 (spc_tail HS.out _ _).1
    clear b2
    have E4 : Hid (Env D w ((wr.heap.size, 69, [.int .i64 x, .int .i64 0, .int .i64 0]) :: (w.heap.size + 1, 41, spc m (.slice va k vk) nilV) :: (w.heap.size, 41, spc zS nilV nilV) :: vs) [.ce xab (xao + k) (.int .i64 l[k]), .rw (.slice (some ⟨xab, xao, none⟩) l.length xk) l.length 1 (icl l)] _) := Lib.hid ((E3.out.push 69 [.int .i64 x, .int .i64 0, .int .i64 0] (wr.heap.size) (by simp)))
    go_wp2_with (first | (with_reducible refine wpl_alloc_b ?_ ?_ _ zvSpend ?_; (· rfl); (· rfl)) | (with_reducible refine wpl_coin a ?_ ?_ ?_; (· rfl); (· exact ⟨_, rfl, rfl⟩)) | (with_reducible refine wpl_ctx n ?_ ?_ ?_; (· rfl); (· exact ⟨_, rfl, rfl⟩)) | (with_reducible refine wpl_mkS a n HM.out ?_ ?_ ?_; (· rfl); (· exact ⟨_, _, rfl, rfl, rfl⟩)) | (at_builtin; refine wpl_app1 (c := 1) tiLeaf rfl _ _ rfl E4.out (A := [(wr.heap.size, 69, [.int .i64 x, .int .i64 0, .int .i64 0]), (w.heap.size + 1, 41, spc m (.slice va k vk) nilV), (w.heap.size, 41, spc zS nilV nilV)]) (sg := vs) (B' := []) (F := ((wr.heap.size, 69, [.int .i64 x, .int .i64 0, .int .i64 0]) :: (w.heap.size + 1, 41, spc m (.slice va k vk) nilV) :: (w.heap.size, 41, spc zS nilV nilV) :: vs)) (by simp) vO.out rfl rfl (SrcN.box (m := 1) (E4.out.bx 0 rfl) rfl leaf_one) HKB.out ?_))
    intro zg zp zc w1 zH zT zE
    have E5 : Hid (Env D w ((wr.heap.size, 69, [.int .i64 x, .int .i64 0, .int .i64 0]) :: (w.heap.size + 1, 41, spc m (.slice va k vk) nilV) :: (w.heap.size, 41, spc zS nilV nilV) :: [(zg, 69, zc)]) [.ce xab (xao + k) (.int .i64 l[k]), .rw (.slice (some ⟨xab, xao, none⟩) l.length xk) l.length 1 (icl l)] w1) := Lib.hid (zE.out.cast (by simp))
    clear c0 c2 E3 E4 zE
    have b3 := E5.out.bx 1 rfl
    have c3 := b3.cell 77 (spc_tail HS.out _ _).1
    have f3 := b3.frozen 77
    clear b3
    have E6 : Hid (Env D w ((wr.heap.size, 69, [.int .i64 x, .int .i64 0, .int .i64 0]) :: (w.heap.size + 1, 41, (spc m (.slice va k vk) nilV).set 77 (.slice (some ⟨zg, 0, none⟩) (k + 1) zp)) :: (w.heap.size, 41, spc zS nilV nilV) :: [(zg, 69, zc)]) [.ce xab (xao + k) (.int .i64 l[k]), .rw (.slice (some ⟨xab, xao, none⟩) l.length xk) l.length 1 (icl l)] _) := Lib.hid ((E5.out.set 1 77 (.slice (some ⟨zg, 0, none⟩) (k + 1) zp) rfl))
    have E7 : Hid (Env D w ((wr.heap.size, 69, [.int .i64 x, .int .i64 0, .int .i64 0]) :: (w.heap.size + 1, 41, spc m (.slice (some ⟨zg, 0, none⟩) (k + 1) zp) nilV) :: (w.heap.size, 41, spc zS nilV nilV) :: [(zg, 69, zc)]) [.ce xab (xao + k) (.int .i64 l[k]), .rw (.slice (some ⟨xab, xao, none⟩) l.length xk) l.length 1 (icl l)] _) := Lib.hid (by have h := E6.out; rw [spc_setL HS.out] at h; exact h)
    have hZ := (E7.out.drop)
    have EZ : Hid (Env D w ((w.heap.size + 1, 41, spc m (.slice (some ⟨zg, 0, none⟩) (k + 1) zp) nilV) :: (w.heap.size, 41, spc zS nilV nilV) :: [(zg, 69, zc)]) [.rw (.slice (some ⟨xab, xao, none⟩) l.length xk) l.length 1 (icl l)] _) := Lib.hid ⟨hZ.bel, hZ.box, ⟨hZ.fc 1 rfl, trivial⟩⟩
    clear hZ
    have HT2 : Hid (zc.take ((k + 1) * 3) = lcl (lv0 (l.take (k + 1)))) := Lib.hid (by rw [zT.out, vT.out, List.take_succ_eq_append_getElem hk, HX.out]; unfold lv0; rw [List.map_append, List.map_singleton, lcl_snoc])
    go_wp2_with (first | (with_reducible refine wpl_alloc_b ?_ ?_ _ zvSpend ?_; (· rfl); (· rfl)) | (with_reducible refine wpl_coin a ?_ ?_ ?_; (· rfl); (· exact ⟨_, rfl, rfl⟩)) | (with_reducible refine wpl_ctx n ?_ ?_ ?_; (· rfl); (· exact ⟨_, rfl, rfl⟩)) | (with_reducible refine wpl_mkS a n HM.out ?_ ?_ ?_; (· rfl); (· exact ⟨_, _, rfl, rfl, rfl⟩)))
    go_roundg (l.length - (k + 1))
    case rel => exact ⟨k + 1, [(zg, 69, zc)], zc, some ⟨zg, 0, none⟩, zp, rfl, EZ, Lib.hid (.inr ⟨zg, zp, rfl, rfl, zH.out.1, zH.out.2.1, zH.out.2.2⟩), HT2, Lib.hid ⟨by omega, rfl⟩⟩
    case measure => exact by omega
set_option maxRecDepth 100000 in
set_option maxHeartbeats 1000000 in
theorem new_c {D : Nat → Prop}  {w : World}   :
    Calls Try.prog 17 #[] w fun e w' => e = .returned (.agg #[.slice none 0 0]) ∧ Below w.heap.size w w' := by
  have E0 : Hid (Env D w [] [] w) := Lib.hid (Env.start D w)
  go_enter Try.func17, Try.ntmps17
  go_wp2
  have E1 : Hid (Env D w [(w.heap.size, 25, [.slice none 0 0])] [] _) := Lib.hid ((E0.out.push 25 [.slice none 0 0] (w.heap.size) (by simp)))
  have hfin := E1.out
  have q1 := (hfin.bx 0 rfl).cell 0 rfl
  exact bodyPost_ret (v := (.agg #[.slice none 0 0])) (by simp [results, Try.results17, go_sem, q1]) rfl ⟨rfl, hfin.bel⟩
set_option maxRecDepth 100000 in
set_option maxHeartbeats 2000000 in
theorem size_c {D : Nat → Prop} (X : List Uv) {xa : Option Addr} {xk : Nat} {w : World} (hx : Fct.at w D (.gn (gUl (.slice xa X.length xk) X))) (hb0 : ∀ x ∈ X, x.u.sp.lv.length ≤ 1000000 ∧ x.u.sp.pa.length ≤ 1000000) (hm0 : X.length ≤ 1000000) {r : Int} (hr0 : (ValidT (X.map Uv.u) → r = (X.length : Int)) ∧ (¬ ValidT (X.map Uv.u) → r = 0)) :
    Calls Try.prog 11 #[.agg #[.slice xa X.length xk]] w fun e w' => e = .returned (.int .i64 r) ∧ Below w.heap.size w w' := by
  have E0 : Hid (Env D w [] [.gn (gUl (.slice xa X.length xk) X)] w) := Lib.hid ((Env.start D w).arg (.gn (gUl (.slice xa X.length xk) X)) hx)
  clear hx
  go_enter Try.func11, Try.ntmps11
  have hb := Lib.hid hb0
  have hm := Lib.hid hm0
  have hr := Lib.hid hr0
  clear hb0 hm0 hr0
  obtain ⟨v1, v1h⟩ : ∃ b : Bool, b = true ↔ ValidT (X.map Uv.u) := by by_cases h : ValidT (X.map Uv.u); (· exact ⟨true, ⟨fun _ => h, fun _ => rfl⟩⟩); exact ⟨false, ⟨fun h2 => Bool.noConfusion h2, fun h2 => absurd h2 h⟩⟩
  have v1H := Lib.hid v1h
  clear v1h
  cases v1 with
  | false =>
    have HR : Hid (r = 0) := Lib.hid (hr.out.2 (by simpa using v1H.out))
    go_wp2_with fail
    have E1 : Hid (Env D w [(w.heap.size, 25, [.slice xa X.length xk])] [.gn (gUl (.slice xa X.length xk) X)] _) := Lib.hid ((E0.out.push 25 [.slice xa X.length xk] (w.heap.size) (by simp)))
    refine (valid_c X (E1.out.fc 0 rfl) hb.out (t := false) (by first | exact v1H.out | simpa using v1H.out) hm.out).mono ?_
    rintro e w1 ⟨rfl, hb⟩
    have E2 : Hid (Env D w [(w.heap.size, 25, [.slice xa X.length xk])] [.gn (gUl (.slice xa X.length xk) X)] w1) := Lib.hid (E1.out.below hb)
    clear E0 E1 hb
    have hfin := Lib.hid E2.out.bel
    go_wp2
    go_ret
    exact ⟨RetEq HR.out.symm, hfin.out⟩
  | true =>
    have HR : Hid (r = (X.length : Int)) := Lib.hid (hr.out.1 (v1H.out.1 (by simp)))
    go_wp2_with fail
    have E1 : Hid (Env D w [(w.heap.size, 25, [.slice xa X.length xk])] [.gn (gUl (.slice xa X.length xk) X)] _) := Lib.hid ((E0.out.push 25 [.slice xa X.length xk] (w.heap.size) (by simp)))
    refine (valid_c X (E1.out.fc 0 rfl) hb.out (t := true) (by first | exact v1H.out | simpa using v1H.out) hm.out).mono ?_
    rintro e w1 ⟨rfl, hb⟩
    have E2 : Hid (Env D w [(w.heap.size, 25, [.slice xa X.length xk])] [.gn (gUl (.slice xa X.length xk) X)] w1) := Lib.hid (E1.out.below hb)
    clear E0 E1 hb
    have b1 := E2.out.bx 0 rfl
    have c1_0 := b1.cell 0 rfl
    clear b1
    have hfin := Lib.hid E2.out.bel
    go_wp2
    go_ret
    exact ⟨RetEq HR.out.symm, hfin.out⟩
set_option maxRecDepth 100000 in
set_option maxHeartbeats 2000000 in
theorem great_c {D : Nat → Prop} (X : List Uv) {xa : Option Addr} {xk : Nat} {w : World} (hx : Fct.at w D (.gn (gUl (.slice xa X.length xk) X))) (hb0 : ∀ x ∈ X, x.u.sp.lv.length ≤ 1000000 ∧ x.u.sp.pa.length ≤ 1000000) (hm0 : X.length ≤ 1000000) {t : Bool} (ht0 : (decide (40 < X.length) || (X.map Uv.u).any (fun x => longS x.sp)) = t) :
    Calls Try.prog 12 #[.agg #[.slice xa X.length xk]] w fun e w' => e = .returned (.bool t) ∧ Below w.heap.size w w' := by
  have E0 : Hid (Env D w [] [.gn (gUl (.slice xa X.length xk) X)] w) := Lib.hid ((Env.start D w).arg (.gn (gUl (.slice xa X.length xk) X)) hx)
  clear hx
  go_enter Try.func12, Try.ntmps12
  have hb := Lib.hid hb0
  have hm := Lib.hid hm0
  have ht := Lib.hid ht0
  clear hb0 hm0 ht0
  have hm9 := hm.out
  by_cases q : 40 < X.length
  · have d1 : decide ((40 : Int) < (X.length : Int)) = true := decide_eq_true (by omega)
    have d1b : decide (40 < X.length) = true := decide_eq_true q
    have HT : Hid (t = true) := Lib.hid (by rw [← ht.out, d1b]; rfl)
    have E1 : Hid (Env D w [(w.heap.size, 25, [.slice xa X.length xk])] [.gn (gUl (.slice xa X.length xk) X)] _) := Lib.hid ((E0.out.push 25 [.slice xa X.length xk] (w.heap.size) (by simp)))
    have hfin := Lib.hid E1.out.bel
    go_wp2
    go_ret
    exact ⟨RetEqB HT.out.symm, hfin.out⟩
  have d1 : decide ((40 : Int) < (X.length : Int)) = false := decide_eq_false (by omega)
  have d1b : decide (40 < X.length) = false := decide_eq_false q
  have HT : Hid ((X.map Uv.u).any (fun x => longS x.sp) = t) := Lib.hid (by rw [← ht.out, d1b]; rfl)
  go_wp2_with fail
  have E1 : Hid (Env D w [(w.heap.size, 25, [.slice xa X.length xk])] [.gn (gUl (.slice xa X.length xk) X)] _) := Lib.hid ((E0.out.push 25 [.slice xa X.length xk] (w.heap.size) (by simp)))
  refine (grC X (E1.out.fc 0 rfl) hb.out HT.out hm.out).mono ?_
  rintro e w1 ⟨rfl, hb⟩
  have E2 : Hid (Env D w [(w.heap.size, 25, [.slice xa X.length xk])] [.gn (gUl (.slice xa X.length xk) X)] w1) := Lib.hid (E1.out.below hb)
  clear E0 E1 hb
  have hfin := Lib.hid E2.out.bel
  go_wp2
  go_ret
  exact ⟨rfl, hfin.out⟩
end Go.Proofs.Ytfnnfmefihiefaa

/- specielaw39: awake. -/
import Derived.Test.YtbcfcdcomboljaaLinLa
namespace Go.Proofs.Ytbcfcdcomboljaa
open Go.RowKit
set_option linter.unusedVariables false
set_option linter.unusedSimpArgs false
def linB (l : Lin) : Bool := wth l.nw 1099511627776 && decide (l.L.length = l.ats.length) && decide (l.L.length ≤ 1000) && decide (l.ft.length ≤ 1000) && decide (l.ats.Pairwise (· ≤ ·)) && l.L.all msgOk && l.ats.all (fun t => wth t 1099512627776) && l.ft.all (fun f => fateOk f.1 f.2)
theorem ok_of {l : Lin} (h : linB l = true) : LinOk l := by
  unfold linB at h
  simp only [Bool.and_eq_true, decide_eq_true_eq, List.all_eq_true] at h
  obtain ⟨⟨⟨⟨⟨⟨⟨h1, h2⟩, h3⟩, h4⟩, h5⟩, h6⟩, h7⟩, h8⟩ := h
  exact ⟨⟨h1, h2, h3, h4⟩, fun i hi => List.pairwise_iff_getElem.1 h5 i (i + 1) (by omega) hi (by omega), fun k hk hk' => ⟨h6 _ (List.getElem_mem hk), h7 _ (List.getElem_mem hk')⟩, fun k hk => h8 _ (List.getElem_mem hk)⟩
theorem place0 {l : List Int} {t : Int} (h : ∀ x ∈ l, t < x) : PlaceIs l t 0 := ⟨Nat.zero_le _, fun k _ hk => absurd hk (Nat.not_lt_zero _), fun k hk _ => h _ (List.getElem_mem hk)⟩
def aw : Nat → Lin
  | 0 => NL [(2, 5), (0, 0)]
  | 1 => ⟨0, [letterM 0, letterM 0], [5, 5], [(0, 0)]⟩
  | 2 => ⟨0, [letterM 0, letterM 0], [5, 5], []⟩
  | _ => ⟨0, [letterM 2, letterM 0, letterM 0], [0, 5, 5], []⟩
def aw4 : Lin := recvL (aw 3) 0
def aw5 : Lin := goL aw4 5
theorem big_of {l : Lin} (h : (l.L.length ≤ 100000 ∧ l.ats.length ≤ 100000 ∧ l.ft.length ≤ 100000) ∧ l.L.all (fun m => decide (m.body.length ≤ 1000000)) = true) : Big l := ⟨h.1, fun k hk => by have := List.all_eq_true.1 h.2 _ (List.getElem_mem hk); simpa using this⟩
theorem aw_step : ∀ k, k < 3 → ∃ (c p : Nat) (d : Int), LinOk (aw k) ∧ msgOk (letterM k) = true ∧ fate0 (aw k) = ((c : Int), d) ∧ PlaceIs (aw k).ats ((aw k).nw + d) p ∧ Big (aw k) ∧ ¬ 1000 < (aw k).L.length + c ∧ sendL (aw k) (letterM k) p c d = aw (k + 1)
  | 0, _ => ⟨2, 0, 5, ok_of (by decide), by decide, rfl, place0 (by decide), big_of ⟨by decide, by decide⟩, by decide, rfl⟩
  | 1, _ => ⟨0, 0, 0, ok_of (by decide), by decide, rfl, place0 (by decide), big_of ⟨by decide, by decide⟩, by decide, rfl⟩
  | 2, _ => ⟨1, 0, 0, ok_of (by decide), by decide, rfl, place0 (by decide), big_of ⟨by decide, by decide⟩, by decide, rfl⟩
  | k + 3, h => absurd h (by omega)
theorem letter_body (n : Int) : (letterM n).body.length ≤ 1000000 := Nat.zero_le _
/-- a row of the call's own that is written to no more -/
theorem Env.freeze {D0 : Nat → Prop} {w W : World} {F : List Bx} {G : List Fct} {g : Nat} {T : TypeId} {cs : List Value} (E : Env D0 w ((g, T, cs) :: F) G W) (n k : Nat) (hl : cs.length = n * k) (hn : n ≤ 1000000) (h1 : ∀ u ∈ cs, u.oneCell' = true) : Env D0 w F (.rw (.slice (some ⟨g, 0, none⟩) n n) n k cs :: G) W := by
  have hB := E.box.1
  refine E.drop.note _ ⟨some ⟨g, 0, none⟩, n, rfl, Nat.le_refl _, by omega, hl, h1, fun _ => ⟨g, 0, rfl, ⟨hB.lt, fun p hp => E.box.2.1 p hp, .inr hB.1⟩, fun i u hu => ?_⟩⟩
  rw [Nat.zero_add]; exact hB.cell i hu
theorem Send_aw {D : Nat → Prop} {xa xb xc : Option Addr} {xj xk xm : Nat} {w : World} {k : Nat} (hk : k < 3) {ma : Option Addr} {mk : Nat} (hx1 : Fct.at w D (.ms (.slice xa ((aw k).L.length) xj) (aw k).L)) (hx2 : Fct.at w D (.rw (.slice xb (aw k).ats.length xk) (aw k).ats.length 1 (icl (aw k).ats))) (hx3 : Fct.at w D (.rw (.slice xc (aw k).ft.length xm) (aw k).ft.length 2 (fcl (aw k).ft))) (hm : Fct.at w D (.bs (.slice ma (letterM k).body.length mk) (letterM k).body)) :
    Calls Try.prog 34 #[.agg #[.int .i64 (aw k).nw, .slice xa (aw k).L.length xj, .slice xb (aw k).ats.length xk, .slice xc (aw k).ft.length xm], .agg #[.int .i64 (letterM k).fr, .int .i64 (letterM k).to_, .int .i64 (letterM k).kd, .int .i64 (letterM k).nm, .slice ma (letterM k).body.length mk]] w fun e w' => RetLE (fun b => D b ∨ w.heap.size ≤ b) (aw (k + 1)) 0 e w' ∧ Below w.heap.size w w' := by
  obtain ⟨c, p, d, h1, h2, h3, h4, h5, h6, h7⟩ := aw_step k hk
  rw [← h7]
  exact Send_ok hx1 hx2 hx3 hm h1 h2 h3 h4 h5 (letter_body _) h6
theorem Receive_aw {D : Nat → Prop} {xa xb xc : Option Addr} {xj xk xm : Nat} {w : World}  (hx1 : Fct.at w D (.ms (.slice xa ((aw 3).L.length) xj) (aw 3).L)) (hx2 : Fct.at w D (.rw (.slice xb (aw 3).ats.length xk) (aw 3).ats.length 1 (icl (aw 3).ats))) (hx3 : Fct.at w D (.rw (.slice xc (aw 3).ft.length xm) (aw 3).ft.length 2 (fcl (aw 3).ft)))  :
    Calls Try.prog 36 #[.agg #[.int .i64 (aw 3).nw, .slice xa (aw 3).L.length xj, .slice xb (aw 3).ats.length xk, .slice xc (aw 3).ft.length xm], .int .i64 1] w fun e w' => RetLME (fun b => D b ∨ w.heap.size ≤ b) aw4 (letterM 2) 0 e w' ∧ Below w.heap.size w w' := by
  exact Receive_ok (aw 3) 1 0 (letterM 2) hx1 hx2 hx3 (ok_of (by decide)) (.inl ⟨0, rfl, by decide, fun j h => absurd h (Nat.not_lt_zero _)⟩) (big_of ⟨by decide, by decide⟩) (by decide) (by decide) rfl
theorem Next_aw {D : Nat → Prop} {xa xb xc : Option Addr} {xj xk xm : Nat} {w : World}  (hx1 : Fct.at w D (.ms (.slice xa (aw4.L.length) xj) aw4.L)) (hx2 : Fct.at w D (.rw (.slice xb aw4.ats.length xk) aw4.ats.length 1 (icl aw4.ats))) (hx3 : Fct.at w D (.rw (.slice xc aw4.ft.length xm) aw4.ft.length 2 (fcl aw4.ft)))  :
    Calls Try.prog 39 #[.agg #[.int .i64 aw4.nw, .slice xa aw4.L.length xj, .slice xb aw4.ats.length xk, .slice xc aw4.ft.length xm]] w fun e w' => e = .returned (.tuple #[.int .i64 5, .bool true]) ∧ Below w.heap.size w w' := by
  exact Next_ok aw4 hx1 hx2 hx3 (.inl ⟨0, by decide, rfl, rfl, by decide, fun j _ h => absurd h (Nat.not_lt_zero _)⟩) (ok_of (by decide))
theorem Go_aw {D : Nat → Prop} {xa xb xc : Option Addr} {xj xk xm : Nat} {w : World}  (hx1 : Fct.at w D (.ms (.slice xa (aw4.L.length) xj) aw4.L)) (hx2 : Fct.at w D (.rw (.slice xb aw4.ats.length xk) aw4.ats.length 1 (icl aw4.ats))) (hx3 : Fct.at w D (.rw (.slice xc aw4.ft.length xm) aw4.ft.length 2 (fcl aw4.ft)))  :
    Calls Try.prog 37 #[.agg #[.int .i64 aw4.nw, .slice xa aw4.L.length xj, .slice xb aw4.ats.length xk, .slice xc aw4.ft.length xm], .int .i64 5] w fun e w' => RetLE (fun b => D b ∨ w.heap.size ≤ b) aw5 0 e w' ∧ Below w.heap.size w w' := by
  exact Go_ok aw4 5 hx1 hx2 hx3 (ok_of (by decide)) (by decide) (by decide) (big_of ⟨by decide, by decide⟩) (by decide)
theorem Waiting_aw {D : Nat → Prop} {xa xb xc : Option Addr} {xj xk xm : Nat} {w : World}  (hx1 : Fct.at w D (.ms (.slice xa (aw5.L.length) xj) aw5.L)) (hx2 : Fct.at w D (.rw (.slice xb aw5.ats.length xk) aw5.ats.length 1 (icl aw5.ats))) (hx3 : Fct.at w D (.rw (.slice xc aw5.ft.length xm) aw5.ft.length 2 (fcl aw5.ft)))  :
    Calls Try.prog 35 #[.agg #[.int .i64 aw5.nw, .slice xa aw5.L.length xj, .slice xb aw5.ats.length xk, .slice xc aw5.ft.length xm], .int .i64 1] w fun e w' => e = .returned (.int .i64 2) ∧ Below w.heap.size w w' := by
  exact Waiting_ok aw5 1 hx1 hx2 hx3 (ok_of (by decide))
theorem New_aw {D : Nat → Prop} {xa : Option Addr} {xk : Nat} {w : World} (hx : Fct.at w D (.rw (.slice xa 2 xk) 2 2 (fcl [(2, 5), (0, 0)]))) :
    Calls Try.prog 33 #[.slice xa 2 xk] w fun e w' => RetLE (fun b => D b ∨ w.heap.size ≤ b) (aw 0) 0 e w' ∧ Below w.heap.size w w' :=
  New_ok [(2, 5), (0, 0)] hx (by decide) (ok_of (l := NL [(2, 5), (0, 0)]) (by decide)).2.2.2
set_option maxRecDepth 100000 in
set_option maxHeartbeats 1000000 in
theorem awake_c {D : Nat → Prop}  {w : World}   :
    Calls Try.prog 31 #[] w fun e w' => e = .returned (.bool true) ∧ Below w.heap.size w w' := by
  have E0 := Lib.hid (Env.start D w)
  go_enter Try.func31, Try.ntmps31
  have E1 := Lib.hid ((E0.out.push 72 [.int .i64 2, .int .i64 5, .int .i64 0, .int .i64 0] (w.heap.size) (by simp)))
  have E2 := Lib.hid (E1.out.freeze 2 2 rfl (by omega) (by decide))
  go_wp2_with fail
  refine (New_aw (E2.out.fc 0 rfl)).mono ?_
  rintro e w1 ⟨⟨nv, rfl, na, nj, nb, nk, nc, nm, rfl, n1, n2, n3⟩, hb⟩
  have E3 := Lib.hid (E2.out.got (E2.out.got (E2.out.got (E2.out.below hb) (.ms (.slice na (aw 0).L.length nj) (aw 0).L) n1.out) (.rw (.slice nb (aw 0).ats.length nk) (aw 0).ats.length 1 (icl (aw 0).ats)) n2.out) (.rw (.slice nc (aw 0).ft.length nm) (aw 0).ft.length 2 (fcl (aw 0).ft)) n3.out)
  clear E0 E1 E2 hb n1 n2 n3
  go_wp2_with fail
  have E4 := Lib.hid ((E3.out.push 64 [.int .i64 (aw 0).nw, .slice na (aw 0).L.length nj, .slice nb (aw 0).ats.length nk, .slice nc (aw 0).ft.length nm] (w1.heap.size) (by simp)))
  go_loopg [2, 16] (3) (fun gk s2 s16 wr => ∃ (k : Nat) (na : Option Addr) (nj : Nat) (nb : Option Addr) (nk : Nat) (nc : Option Addr) (nm : Nat), s2 = .int .i64 0 ∧ s16 = .int .i64 (k : Int) ∧ Hid (Env D w [(w1.heap.size, 64, [.int .i64 (aw k).nw, .slice na (aw k).L.length nj, .slice nb (aw k).ats.length nk, .slice nc (aw k).ft.length nm])] [.ms (.slice na (aw k).L.length nj) (aw k).L, .rw (.slice nb (aw k).ats.length nk) (aw k).ats.length 1 (icl (aw k).ats), .rw (.slice nc (aw k).ft.length nm) (aw k).ft.length 2 (fcl (aw k).ft), .rw (.slice (some ⟨w.heap.size, 0, none⟩) 2 2) 2 2 (fcl [(2, 5), (0, 0)])] wr) ∧ Hid (k ≤ 3 ∧ gk = 3 - k))
  case atStart => exact ⟨0, na, nj, nb, nk, nc, nm, rfl, rfl, Lib.hid ⟨E4.out.bel, E4.out.box, ⟨E4.out.fc 2 rfl, ⟨E4.out.fc 1 rfl, ⟨E4.out.fc 0 rfl, ⟨E4.out.fc 3 rfl, trivial⟩⟩⟩⟩⟩, Lib.hid ⟨Nat.zero_le _, rfl⟩⟩
  case round =>
    clear E3 E4
    obtain ⟨k, na, nj, nb, nk, nc, nm, rfl, rfl, EL, HA⟩ := hrel
    obtain ⟨a1, a2⟩ := HA.out
    clear HA
    by_cases hy : k = 3
    rotate_left
    · have hk : k < 3 := by omega
      have t6 : decide ((k : Int) < 3) = true := decide_eq_true (by omega)
      have HK := Lib.hid hk
      clear hy
      go_wp2_with fail
      have E5 := Lib.hid EL.out.drew
      clear EL
      refine wp_regionU (S := fun w' => True) [] (by kernel_rfl) (trivial) (fun hHeld => ?_)
      generalize wr.drew = w2 at *
      refine uTake (i := 1) (some 23) (v := ?_) rfl rfl (by kernel_rfl) (by kernel_rfl) (by kernel_rfl) (by kernel_rfl) (fun _ _ _ h => h) (by rfl) (by assumption) ?_ ?_
      rotate_left
      · (intro wS hSw; (try dsimp only at hSw); go_simp; try with_reducible rfl)
      try simp only [Act.put, List.setIfInBounds_toArray, List.set_cons_zero, List.set_cons_succ]
      refine uReady (rs := [0, 2]) (by kernel_rfl) (by simp) ?_
      refine (ReadyU.cons rfl (fun KK hKK => ?_) (ReadyU.cons rfl (fun KK hKK => ?_) ReadyU.nil))
      · skip
        have b1 := E5.out.bx 0 rfl
        have c1_0 := b1.cell 0 rfl
        have c1_1 := b1.cell 1 rfl
        have c1_2 := b1.cell 2 rfl
        have c1_3 := b1.cell 3 rfl
        clear b1
        go_simp
        (try dsimp only)
        clear hHeld
        refine hKK.out _ _ (trivial) (fun hHeld => ?_)
        clear hKK KK
        try simp only [Act.put, List.setIfInBounds_toArray, List.set_cons_zero, List.set_cons_succ]
        refine uReady (rs := [2]) (by kernel_rfl) (by simp) ?_
        refine ReadyU.cons rfl (fun KK hKK => ?_) ReadyU.nil
        go_simp
        refine (letter_c (D := (DF D w.heap.size [(w1.heap.size, 64, [.int .i64 (aw k).nw, .slice na (aw k).L.length nj, .slice nb (aw k).ats.length nk, .slice nc (aw k).ft.length nm])])) (k : Int)).mono ?_
        rintro e w3 ⟨⟨lta, ltk, rfl, hlt⟩, hb⟩
        have E6 := Lib.hid (E5.out.got (E5.out.below hb) (.bs (.slice lta (letterM (k : Int)).body.length ltk) (letterM (k : Int)).body) hlt.out)
        clear c1_0 c1_1 c1_2 c1_3 E5 hb hlt
        (try dsimp only)
        clear hHeld
        refine hKK.out _ _ (trivial) (fun hHeld => ?_)
        clear hKK KK
        try simp only [Act.put, List.setIfInBounds_toArray, List.set_cons_zero, List.set_cons_succ]
        refine uReady (rs := [3]) (by kernel_rfl) (by simp) ?_
        refine ReadyU.cons rfl (fun KK hKK => ?_) ReadyU.nil
        go_simp
        refine (Send_aw HK.out (E6.out.fc 1 rfl) (E6.out.fc 2 rfl) (E6.out.fc 3 rfl) (E6.out.fc 0 rfl)).mono ?_
        rintro e w4 ⟨⟨vv, rfl, va, vj, vb, vk, vc, vm, rfl, v1, v2, v3⟩, hb⟩
        have E7 := Lib.hid (E6.out.got (E6.out.got (E6.out.got (E6.out.below hb) (.ms (.slice va (aw (k + 1)).L.length vj) (aw (k + 1)).L) v1.out) (.rw (.slice vb (aw (k + 1)).ats.length vk) (aw (k + 1)).ats.length 1 (icl (aw (k + 1)).ats)) v2.out) (.rw (.slice vc (aw (k + 1)).ft.length vm) (aw (k + 1)).ft.length 2 (fcl (aw (k + 1)).ft)) v3.out)
        clear E6 hb v1 v2 v3
        (try dsimp only)
        clear hHeld
        refine hKK.out _ _ (trivial) (fun hHeld => ?_)
        clear hKK KK
        try simp only [Act.put, List.setIfInBounds_toArray, List.set_cons_zero, List.set_cons_succ]
        refine uTake (i := 4) (some 21) (v := ?_) rfl rfl (by kernel_rfl) (by kernel_rfl) (by kernel_rfl) (by kernel_rfl) (fun _ _ _ h => h) (by rfl) (by assumption) ?_ ?_
        rotate_left
        · (intro wS hSw; (try dsimp only at hSw); go_simp; try with_reducible rfl)
        try simp only [Act.put, List.setIfInBounds_toArray, List.set_cons_zero, List.set_cons_succ]
        refine uTake (i := 5) (some 26) (v := ?_) rfl rfl (by kernel_rfl) (by kernel_rfl) (by kernel_rfl) (by kernel_rfl) (fun _ _ _ h => h) (by rfl) (by assumption) ?_ ?_
        rotate_left
        · (intro wS hSw; (try dsimp only at hSw); go_simp; try with_reducible rfl)
        try simp only [Act.put, List.setIfInBounds_toArray, List.set_cons_zero, List.set_cons_succ]
        refine uTake (i := 6) (some 27) (v := ?_) rfl rfl (by kernel_rfl) (by kernel_rfl) (by kernel_rfl) (by kernel_rfl) (fun _ _ _ h => h) (by rfl) (by assumption) ?_ ?_
        rotate_left
        · (intro wS hSw; (try dsimp only at hSw); go_simp; try with_reducible rfl)
        try simp only [Act.put, List.setIfInBounds_toArray, List.set_cons_zero, List.set_cons_succ]
        have b2 := E7.out.bx 0 rfl
        have c2_0 := b2.cell 0 rfl
        have c2_1 := b2.cell 1 rfl
        have c2_2 := b2.cell 2 rfl
        have c2_3 := b2.cell 3 rfl
        have f2_0 := b2.frozen 0
        have f2_1 := b2.frozen 1
        have f2_2 := b2.frozen 2
        have f2_3 := b2.frozen 3
        clear b2
        refine uReady (rs := [7]) (by kernel_rfl) (by simp) ?_
        refine ReadyU.cons rfl (fun KK hKK => ?_) ReadyU.nil
        go_simp
        have E8 : Hid (Env D w [(w1.heap.size, 64, [.int .i64 (aw (k + 1)).nw, .slice va (aw (k + 1)).L.length vj, .slice vb (aw (k + 1)).ats.length vk, .slice vc (aw (k + 1)).ft.length vm])] [.rw (.slice vc (aw (k + 1)).ft.length vm) (aw (k + 1)).ft.length 2 (fcl (aw (k + 1)).ft), .rw (.slice vb (aw (k + 1)).ats.length vk) (aw (k + 1)).ats.length 1 (icl (aw (k + 1)).ats), .ms (.slice va (aw (k + 1)).L.length vj) (aw (k + 1)).L, .bs (.slice lta (letterM (k : Int)).body.length ltk) (letterM (k : Int)).body, .ms (.slice na (aw k).L.length nj) (aw k).L, .rw (.slice nb (aw k).ats.length nk) (aw k).ats.length 1 (icl (aw k).ats), .rw (.slice nc (aw k).ft.length nm) (aw k).ft.length 2 (fcl (aw k).ft), .rw (.slice (some ⟨w.heap.size, 0, none⟩) 2 2) 2 2 (fcl [(2, 5), (0, 0)])] _) := Lib.hid (((((E7.out.set 0 0 (.int .i64 (aw (k + 1)).nw) rfl).set 0 1 (.slice va (aw (k + 1)).L.length vj) rfl).set 0 2 (.slice vb (aw (k + 1)).ats.length vk) rfl).set 0 3 (.slice vc (aw (k + 1)).ft.length vm) rfl))
        (try dsimp only)
        clear hHeld
        refine hKK.out _ _ (trivial) (fun hHeld => ?_)
        clear hKK KK
        try simp only [Act.put, List.setIfInBounds_toArray, List.set_cons_zero, List.set_cons_succ]
        refine uTake (i := 8) (some 2) (v := ?_) rfl rfl (by kernel_rfl) (by kernel_rfl) (by kernel_rfl) (by kernel_rfl) (fun _ _ _ h => h) (by rfl) (by assumption) ?_ ?_
        rotate_left
        · (intro wS hSw; (try dsimp only at hSw); go_simp; try with_reducible rfl)
        try simp only [Act.put, List.setIfInBounds_toArray, List.set_cons_zero, List.set_cons_succ]
        refine uDone (by kernel_rfl) ?_ _
        clear c2_0 c2_1 c2_2 c2_3 f2_0 f2_1 f2_2 f2_3 E7
        generalize (((w4.setCell ⟨w1.heap.size, 0, none⟩ (.int .i64 (aw (k + 1)).nw)).setCell ⟨w1.heap.size, 1, none⟩ (.slice va (aw (k + 1)).L.length vj)).setCell ⟨w1.heap.size, 2, none⟩ (.slice vb (aw (k + 1)).ats.length vk)).setCell ⟨w1.heap.size, 3, none⟩ (.slice vc (aw (k + 1)).ft.length vm) = w5 at *
        have hZ := E8.out
        have EZ : Hid (Env D w [(w1.heap.size, 64, [.int .i64 (aw (k + 1)).nw, .slice va (aw (k + 1)).L.length vj, .slice vb (aw (k + 1)).ats.length vk, .slice vc (aw (k + 1)).ft.length vm])] [.ms (.slice va (aw (k + 1)).L.length vj) (aw (k + 1)).L, .rw (.slice vb (aw (k + 1)).ats.length vk) (aw (k + 1)).ats.length 1 (icl (aw (k + 1)).ats), .rw (.slice vc (aw (k + 1)).ft.length vm) (aw (k + 1)).ft.length 2 (fcl (aw (k + 1)).ft), .rw (.slice (some ⟨w.heap.size, 0, none⟩) 2 2) 2 2 (fcl [(2, 5), (0, 0)])] _) := Lib.hid ⟨hZ.bel, hZ.box, ⟨hZ.fc 2 rfl, ⟨hZ.fc 1 rfl, ⟨hZ.fc 0 rfl, ⟨hZ.fc 7 rfl, trivial⟩⟩⟩⟩⟩
        clear hZ
        go_wp2
        go_roundg (3 - (k + 1))
        case rel => exact ⟨k + 1, va, vj, vb, vk, vc, vm, rfl, rfl, EZ, Lib.hid ⟨by omega, rfl⟩⟩
        case measure => exact by omega
      · skip
        go_simp
        refine (letter_c (D := (DF D w.heap.size [(w1.heap.size, 64, [.int .i64 (aw k).nw, .slice na (aw k).L.length nj, .slice nb (aw k).ats.length nk, .slice nc (aw k).ft.length nm])])) (k : Int)).mono ?_
        rintro e w3 ⟨⟨lta, ltk, rfl, hlt⟩, hb⟩
        have E6 := Lib.hid (E5.out.got (E5.out.below hb) (.bs (.slice lta (letterM (k : Int)).body.length ltk) (letterM (k : Int)).body) hlt.out)
        clear E5 hb hlt
        (try dsimp only)
        clear hHeld
        refine hKK.out _ _ (trivial) (fun hHeld => ?_)
        clear hKK KK
        try simp only [Act.put, List.setIfInBounds_toArray, List.set_cons_zero, List.set_cons_succ]
        have b1 := E6.out.bx 0 rfl
        have c1_0 := b1.cell 0 rfl
        have c1_1 := b1.cell 1 rfl
        have c1_2 := b1.cell 2 rfl
        have c1_3 := b1.cell 3 rfl
        clear b1
        refine uReady (rs := [0]) (by kernel_rfl) (by simp) ?_
        refine ReadyU.cons rfl (fun KK hKK => ?_) ReadyU.nil
        go_simp
        (try dsimp only)
        clear hHeld
        refine hKK.out _ _ (trivial) (fun hHeld => ?_)
        clear hKK KK
        try simp only [Act.put, List.setIfInBounds_toArray, List.set_cons_zero, List.set_cons_succ]
        refine uReady (rs := [3]) (by kernel_rfl) (by simp) ?_
        refine ReadyU.cons rfl (fun KK hKK => ?_) ReadyU.nil
        go_simp
        refine (Send_aw HK.out (E6.out.fc 1 rfl) (E6.out.fc 2 rfl) (E6.out.fc 3 rfl) (E6.out.fc 0 rfl)).mono ?_
        rintro e w4 ⟨⟨vv, rfl, va, vj, vb, vk, vc, vm, rfl, v1, v2, v3⟩, hb⟩
        have E7 := Lib.hid (E6.out.got (E6.out.got (E6.out.got (E6.out.below hb) (.ms (.slice va (aw (k + 1)).L.length vj) (aw (k + 1)).L) v1.out) (.rw (.slice vb (aw (k + 1)).ats.length vk) (aw (k + 1)).ats.length 1 (icl (aw (k + 1)).ats)) v2.out) (.rw (.slice vc (aw (k + 1)).ft.length vm) (aw (k + 1)).ft.length 2 (fcl (aw (k + 1)).ft)) v3.out)
        clear c1_0 c1_1 c1_2 c1_3 E6 hb v1 v2 v3
        (try dsimp only)
        clear hHeld
        refine hKK.out _ _ (trivial) (fun hHeld => ?_)
        clear hKK KK
        try simp only [Act.put, List.setIfInBounds_toArray, List.set_cons_zero, List.set_cons_succ]
        refine uTake (i := 4) (some 21) (v := ?_) rfl rfl (by kernel_rfl) (by kernel_rfl) (by kernel_rfl) (by kernel_rfl) (fun _ _ _ h => h) (by rfl) (by assumption) ?_ ?_
        rotate_left
        · (intro wS hSw; (try dsimp only at hSw); go_simp; try with_reducible rfl)
        try simp only [Act.put, List.setIfInBounds_toArray, List.set_cons_zero, List.set_cons_succ]
        refine uTake (i := 5) (some 26) (v := ?_) rfl rfl (by kernel_rfl) (by kernel_rfl) (by kernel_rfl) (by kernel_rfl) (fun _ _ _ h => h) (by rfl) (by assumption) ?_ ?_
        rotate_left
        · (intro wS hSw; (try dsimp only at hSw); go_simp; try with_reducible rfl)
        try simp only [Act.put, List.setIfInBounds_toArray, List.set_cons_zero, List.set_cons_succ]
        refine uTake (i := 6) (some 27) (v := ?_) rfl rfl (by kernel_rfl) (by kernel_rfl) (by kernel_rfl) (by kernel_rfl) (fun _ _ _ h => h) (by rfl) (by assumption) ?_ ?_
        rotate_left
        · (intro wS hSw; (try dsimp only at hSw); go_simp; try with_reducible rfl)
        try simp only [Act.put, List.setIfInBounds_toArray, List.set_cons_zero, List.set_cons_succ]
        have b2 := E7.out.bx 0 rfl
        have c2_0 := b2.cell 0 rfl
        have c2_1 := b2.cell 1 rfl
        have c2_2 := b2.cell 2 rfl
        have c2_3 := b2.cell 3 rfl
        have f2_0 := b2.frozen 0
        have f2_1 := b2.frozen 1
        have f2_2 := b2.frozen 2
        have f2_3 := b2.frozen 3
        clear b2
        refine uReady (rs := [7]) (by kernel_rfl) (by simp) ?_
        refine ReadyU.cons rfl (fun KK hKK => ?_) ReadyU.nil
        go_simp
        have E8 : Hid (Env D w [(w1.heap.size, 64, [.int .i64 (aw (k + 1)).nw, .slice va (aw (k + 1)).L.length vj, .slice vb (aw (k + 1)).ats.length vk, .slice vc (aw (k + 1)).ft.length vm])] [.rw (.slice vc (aw (k + 1)).ft.length vm) (aw (k + 1)).ft.length 2 (fcl (aw (k + 1)).ft), .rw (.slice vb (aw (k + 1)).ats.length vk) (aw (k + 1)).ats.length 1 (icl (aw (k + 1)).ats), .ms (.slice va (aw (k + 1)).L.length vj) (aw (k + 1)).L, .bs (.slice lta (letterM (k : Int)).body.length ltk) (letterM (k : Int)).body, .ms (.slice na (aw k).L.length nj) (aw k).L, .rw (.slice nb (aw k).ats.length nk) (aw k).ats.length 1 (icl (aw k).ats), .rw (.slice nc (aw k).ft.length nm) (aw k).ft.length 2 (fcl (aw k).ft), .rw (.slice (some ⟨w.heap.size, 0, none⟩) 2 2) 2 2 (fcl [(2, 5), (0, 0)])] _) := Lib.hid (((((E7.out.set 0 0 (.int .i64 (aw (k + 1)).nw) rfl).set 0 1 (.slice va (aw (k + 1)).L.length vj) rfl).set 0 2 (.slice vb (aw (k + 1)).ats.length vk) rfl).set 0 3 (.slice vc (aw (k + 1)).ft.length vm) rfl))
        (try dsimp only)
        clear hHeld
        refine hKK.out _ _ (trivial) (fun hHeld => ?_)
        clear hKK KK
        try simp only [Act.put, List.setIfInBounds_toArray, List.set_cons_zero, List.set_cons_succ]
        refine uTake (i := 8) (some 2) (v := ?_) rfl rfl (by kernel_rfl) (by kernel_rfl) (by kernel_rfl) (by kernel_rfl) (fun _ _ _ h => h) (by rfl) (by assumption) ?_ ?_
        rotate_left
        · (intro wS hSw; (try dsimp only at hSw); go_simp; try with_reducible rfl)
        try simp only [Act.put, List.setIfInBounds_toArray, List.set_cons_zero, List.set_cons_succ]
        refine uDone (by kernel_rfl) ?_ _
        clear c2_0 c2_1 c2_2 c2_3 f2_0 f2_1 f2_2 f2_3 E7
        generalize (((w4.setCell ⟨w1.heap.size, 0, none⟩ (.int .i64 (aw (k + 1)).nw)).setCell ⟨w1.heap.size, 1, none⟩ (.slice va (aw (k + 1)).L.length vj)).setCell ⟨w1.heap.size, 2, none⟩ (.slice vb (aw (k + 1)).ats.length vk)).setCell ⟨w1.heap.size, 3, none⟩ (.slice vc (aw (k + 1)).ft.length vm) = w5 at *
        have hZ := E8.out
        have EZ : Hid (Env D w [(w1.heap.size, 64, [.int .i64 (aw (k + 1)).nw, .slice va (aw (k + 1)).L.length vj, .slice vb (aw (k + 1)).ats.length vk, .slice vc (aw (k + 1)).ft.length vm])] [.ms (.slice va (aw (k + 1)).L.length vj) (aw (k + 1)).L, .rw (.slice vb (aw (k + 1)).ats.length vk) (aw (k + 1)).ats.length 1 (icl (aw (k + 1)).ats), .rw (.slice vc (aw (k + 1)).ft.length vm) (aw (k + 1)).ft.length 2 (fcl (aw (k + 1)).ft), .rw (.slice (some ⟨w.heap.size, 0, none⟩) 2 2) 2 2 (fcl [(2, 5), (0, 0)])] _) := Lib.hid ⟨hZ.bel, hZ.box, ⟨hZ.fc 2 rfl, ⟨hZ.fc 1 rfl, ⟨hZ.fc 0 rfl, ⟨hZ.fc 7 rfl, trivial⟩⟩⟩⟩⟩
        clear hZ
        go_wp2
        go_roundg (3 - (k + 1))
        case rel => exact ⟨k + 1, va, vj, vb, vk, vc, vm, rfl, rfl, EZ, Lib.hid ⟨by omega, rfl⟩⟩
        case measure => exact by omega
    have t6 : decide ((k : Int) < 3) = false := decide_eq_false (by omega)
    have HY := Lib.hid hy
    clear hy a1 a2
    go_upto_region 8 with (fail)
    obtain rfl := HY.out
    have b1 := EL.out.bx 0 rfl
    have c1_0 := b1.cell 0 rfl
    have c1_1 := b1.cell 1 rfl
    have c1_2 := b1.cell 2 rfl
    have c1_3 := b1.cell 3 rfl
    clear b1
    go_wp2_with fail
    refine (Receive_aw (EL.out.fc 0 rfl) (EL.out.fc 1 rfl) (EL.out.fc 2 rfl)).mono ?_
    rintro e w2 ⟨⟨rv, ro, rq, rfl, ⟨ra, rj, rb, rk, rc, rm, rfl, r1, r2, r3⟩, r4⟩, hb⟩
    have E5 := Lib.hid (EL.out.got (EL.out.got (EL.out.got (EL.out.got (EL.out.below hb) (.ms (.slice ra (aw4).L.length rj) (aw4).L) r1.out) (.rw (.slice rb (aw4).ats.length rk) (aw4).ats.length 1 (icl (aw4).ats)) r2.out) (.rw (.slice rc (aw4).ft.length rm) (aw4).ft.length 2 (fcl (aw4).ft)) r3.out) (.bs (.slice ro ((letterM 2)).body.length rq) ((letterM 2)).body) r4.out)
    clear c1_0 c1_1 c1_2 c1_3 EL hb r1 r2 r3 r4
    have E6 := Lib.hid ((E5.out.push 24 [.int .i64 0, .int .i64 0, .int .i64 0, .int .i64 0, .slice none 0 0] (w2.heap.size) (by simp)))
    have b2 := E6.out.bx 1 rfl
    have c2_0 := b2.cell 0 rfl
    have c2_1 := b2.cell 1 rfl
    have c2_2 := b2.cell 2 rfl
    have c2_3 := b2.cell 3 rfl
    have f2_0 := b2.frozen 0
    have f2_1 := b2.frozen 1
    have f2_2 := b2.frozen 2
    have f2_3 := b2.frozen 3
    clear b2
    have E7 : Hid (Env D w [(w2.heap.size, 24, [.int .i64 0, .int .i64 0, .int .i64 0, .int .i64 0, .slice none 0 0]), (w1.heap.size, 64, [.int .i64 (aw4).nw, .slice ra (aw4).L.length rj, .slice rb (aw4).ats.length rk, .slice rc (aw4).ft.length rm])] [.bs (.slice ro ((letterM 2)).body.length rq) ((letterM 2)).body, .rw (.slice rc (aw4).ft.length rm) (aw4).ft.length 2 (fcl (aw4).ft), .rw (.slice rb (aw4).ats.length rk) (aw4).ats.length 1 (icl (aw4).ats), .ms (.slice ra (aw4).L.length rj) (aw4).L, .ms (.slice na (aw 3).L.length nj) (aw 3).L, .rw (.slice nb (aw 3).ats.length nk) (aw 3).ats.length 1 (icl (aw 3).ats), .rw (.slice nc (aw 3).ft.length nm) (aw 3).ft.length 2 (fcl (aw 3).ft), .rw (.slice (some ⟨w.heap.size, 0, none⟩) 2 2) 2 2 (fcl [(2, 5), (0, 0)])] _) := Lib.hid (((((E6.out.set 1 0 (.int .i64 (aw4).nw) rfl).set 1 1 (.slice ra (aw4).L.length rj) rfl).set 1 2 (.slice rb (aw4).ats.length rk) rfl).set 1 3 (.slice rc (aw4).ft.length rm) rfl))
    have b3 := E7.out.bx 0 rfl
    have c3_0 := b3.cell 0 rfl
    have c3_1 := b3.cell 1 rfl
    have c3_2 := b3.cell 2 rfl
    have c3_3 := b3.cell 3 rfl
    have c3_4 := b3.cell 4 rfl
    have f3_0 := b3.frozen 0
    have f3_1 := b3.frozen 1
    have f3_2 := b3.frozen 2
    have f3_3 := b3.frozen 3
    have f3_4 := b3.frozen 4
    clear b3
    have E8 : Hid (Env D w [(w2.heap.size, 24, [.int .i64 (letterM 2).fr, .int .i64 (letterM 2).to_, .int .i64 (letterM 2).kd, .int .i64 (letterM 2).nm, .slice ro ((letterM 2)).body.length rq]), (w1.heap.size, 64, [.int .i64 (aw4).nw, .slice ra (aw4).L.length rj, .slice rb (aw4).ats.length rk, .slice rc (aw4).ft.length rm])] [.bs (.slice ro ((letterM 2)).body.length rq) ((letterM 2)).body, .rw (.slice rc (aw4).ft.length rm) (aw4).ft.length 2 (fcl (aw4).ft), .rw (.slice rb (aw4).ats.length rk) (aw4).ats.length 1 (icl (aw4).ats), .ms (.slice ra (aw4).L.length rj) (aw4).L, .ms (.slice na (aw 3).L.length nj) (aw 3).L, .rw (.slice nb (aw 3).ats.length nk) (aw 3).ats.length 1 (icl (aw 3).ats), .rw (.slice nc (aw 3).ft.length nm) (aw 3).ft.length 2 (fcl (aw 3).ft), .rw (.slice (some ⟨w.heap.size, 0, none⟩) 2 2) 2 2 (fcl [(2, 5), (0, 0)])] _) := Lib.hid ((((((E7.out.set 0 0 (.int .i64 (letterM 2).fr) rfl).set 0 1 (.int .i64 (letterM 2).to_) rfl).set 0 2 (.int .i64 (letterM 2).kd) rfl).set 0 3 (.int .i64 (letterM 2).nm) rfl).set 0 4 (.slice ro ((letterM 2)).body.length rq) rfl))
    have b4 := E8.out.bx 1 rfl
    have c4_0 := b4.cell 0 rfl
    have c4_1 := b4.cell 1 rfl
    have c4_2 := b4.cell 2 rfl
    have c4_3 := b4.cell 3 rfl
    clear b4
    go_wp2_with fail
    refine (Next_aw (E8.out.fc 3 rfl) (E8.out.fc 2 rfl) (E8.out.fc 1 rfl)).mono ?_
    rintro e w3 ⟨rfl, hb⟩
    have E9 := Lib.hid (E8.out.below hb)
    clear c2_0 c2_1 c2_2 c2_3 f2_0 f2_1 f2_2 f2_3 c3_0 c3_1 c3_2 c3_3 c3_4 f3_0 f3_1 f3_2 f3_3 f3_4 c4_0 c4_1 c4_2 c4_3 E5 E6 E7 E8 hb
    have b5 := E9.out.bx 1 rfl
    have c5_0 := b5.cell 0 rfl
    have c5_1 := b5.cell 1 rfl
    have c5_2 := b5.cell 2 rfl
    have c5_3 := b5.cell 3 rfl
    clear b5
    go_wp2_with fail
    refine (Go_aw (E9.out.fc 3 rfl) (E9.out.fc 2 rfl) (E9.out.fc 1 rfl)).mono ?_
    rintro e w4 ⟨⟨gv, rfl, ga, gj, gb, gk, gc, gm, rfl, g1, g2, g3⟩, hb⟩
    have E10 := Lib.hid (E9.out.got (E9.out.got (E9.out.got (E9.out.below hb) (.ms (.slice ga (aw5).L.length gj) (aw5).L) g1.out) (.rw (.slice gb (aw5).ats.length gk) (aw5).ats.length 1 (icl (aw5).ats)) g2.out) (.rw (.slice gc (aw5).ft.length gm) (aw5).ft.length 2 (fcl (aw5).ft)) g3.out)
    clear c5_0 c5_1 c5_2 c5_3 E9 hb g1 g2 g3
    have b6 := E10.out.bx 1 rfl
    have c6_0 := b6.cell 0 rfl
    have c6_1 := b6.cell 1 rfl
    have c6_2 := b6.cell 2 rfl
    have c6_3 := b6.cell 3 rfl
    have f6_0 := b6.frozen 0
    have f6_1 := b6.frozen 1
    have f6_2 := b6.frozen 2
    have f6_3 := b6.frozen 3
    clear b6
    have hm2 : ((letterM 2).nm == 2) = true := rfl
    have E11 : Hid (Env D w [(w2.heap.size, 24, [.int .i64 (letterM 2).fr, .int .i64 (letterM 2).to_, .int .i64 (letterM 2).kd, .int .i64 (letterM 2).nm, .slice ro ((letterM 2)).body.length rq]), (w1.heap.size, 64, [.int .i64 (aw5).nw, .slice ga (aw5).L.length gj, .slice gb (aw5).ats.length gk, .slice gc (aw5).ft.length gm])] [.rw (.slice gc (aw5).ft.length gm) (aw5).ft.length 2 (fcl (aw5).ft), .rw (.slice gb (aw5).ats.length gk) (aw5).ats.length 1 (icl (aw5).ats), .ms (.slice ga (aw5).L.length gj) (aw5).L, .bs (.slice ro ((letterM 2)).body.length rq) ((letterM 2)).body, .rw (.slice rc (aw4).ft.length rm) (aw4).ft.length 2 (fcl (aw4).ft), .rw (.slice rb (aw4).ats.length rk) (aw4).ats.length 1 (icl (aw4).ats), .ms (.slice ra (aw4).L.length rj) (aw4).L, .ms (.slice na (aw 3).L.length nj) (aw 3).L, .rw (.slice nb (aw 3).ats.length nk) (aw 3).ats.length 1 (icl (aw 3).ats), .rw (.slice nc (aw 3).ft.length nm) (aw 3).ft.length 2 (fcl (aw 3).ft), .rw (.slice (some ⟨w.heap.size, 0, none⟩) 2 2) 2 2 (fcl [(2, 5), (0, 0)])] _) := Lib.hid (((((E10.out.set 1 0 (.int .i64 (aw5).nw) rfl).set 1 1 (.slice ga (aw5).L.length gj) rfl).set 1 2 (.slice gb (aw5).ats.length gk) rfl).set 1 3 (.slice gc (aw5).ft.length gm) rfl))
    have b7 := E11.out.bx 0 rfl
    have c7_3 := b7.cell 3 rfl
    clear b7
    have b8 := E11.out.bx 1 rfl
    have c8_0 := b8.cell 0 rfl
    have c8_1 := b8.cell 1 rfl
    have c8_2 := b8.cell 2 rfl
    have c8_3 := b8.cell 3 rfl
    clear b8
    go_wp2_with fail
    refine (Waiting_aw (E11.out.fc 2 rfl) (E11.out.fc 1 rfl) (E11.out.fc 0 rfl)).mono ?_
    rintro e w5 ⟨rfl, hb⟩
    have E12 := Lib.hid (E11.out.below hb)
    clear c6_0 c6_1 c6_2 c6_3 f6_0 f6_1 f6_2 f6_3 c7_3 c8_0 c8_1 c8_2 c8_3 E10 E11 hb
    have hfin := Lib.hid E12.out.bel
    go_wp2
    go_ret
    exact ⟨rfl, hfin.out⟩
end Go.Proofs.Ytbcfcdcomboljaa

/- specieref39: Fates, Valid. -/
import Derived.Test.YtbcfcdcomboljaaLinQa
namespace Go.Proofs.Ytbcfcdcomboljaa
open Go.RowKit
set_option linter.unusedVariables false
set_option linter.unusedSimpArgs false
theorem rIn_v {n m : Int} {t : Bool} (ht : wth n m = t) (w : World) : Calls Try.prog 58 #[.int .i64 n, .int .i64 0, .int .i64 m] w fun e w' => e = .returned (.bool t) ∧ Below w.heap.size w w' := by
  subst ht; exact (rIn_c n 0 m w).mono fun e w' ⟨h, hw⟩ => ⟨h, hw ▸ Below.refl _ _⟩
theorem lrMessage_v (M : Msg) {t : Bool} (ht : msgOk M = t) (ao : Option Addr) (cap : Nat) (w : World) : Calls Try.prog 46 #[mval M (.slice ao M.body.length cap)] w fun e w' => e = .returned (.bool t) ∧ Below w.heap.size w w' := by
  subst ht; exact lrMessage_c M ao cap w
theorem fateOk_eq (c d : Int) : fateOk c d = (wth c 3 && wth d 1000000) := rfl
set_option maxRecDepth 100000 in
set_option maxHeartbeats 1000000 in
theorem rFates_c {D : Nat → Prop} (ft : List (Int × Int)) {xa : Option Addr} {xk : Nat} {w : World} (hx : Fct.at w D (.rw (.slice xa ft.length xk) ft.length 2 (fcl ft))) {t : Bool} (ht0 : FatsOk ft ↔ t = true) (hl0 : ft.length ≤ 1000000) :
    Calls Try.prog 32 #[.slice xa ft.length xk] w fun e w' => e = .returned (.bool t) ∧ Below w.heap.size w w' := by
  have E0 := Lib.hid ((Env.start D w).arg (.rw (.slice xa ft.length xk) ft.length 2 (fcl ft)) hx)
  clear hx
  go_enter Try.func32, Try.ntmps32
  have ht := Lib.hid ht0
  have hl := hl0
  clear ht0 hl0
  go_wp2_with fail
  go_loopg [3] (ft.length) (fun gk s3 wr => ∃ (k : Nat), s3 = .int .i64 (k : Int) ∧ Hid (Env D w [] [.rw (.slice xa ft.length xk) ft.length 2 (fcl ft)] wr) ∧ Hid ((k ≤ ft.length ∧ gk = ft.length - k) ∧ ∀ i (h : i < ft.length), i < k → fateOk ft[i].1 ft[i].2 = true))
  case atStart => exact ⟨0, rfl, Lib.hid E0.out, Lib.hid ⟨⟨Nat.zero_le _, rfl⟩, fun i _ h => absurd h (Nat.not_lt_zero _)⟩⟩
  case round =>
    clear E0
    obtain ⟨k, rfl, EL, HA⟩ := hrel
    obtain ⟨⟨a1, a2⟩, a3⟩ := HA.out
    have HS := Lib.hid a3
    clear a3 HA
    by_cases hy : k = ft.length
    rotate_left
    · have hk : k < ft.length := by omega
      have t6 : decide ((k : Int) < (ft.length : Int)) = true := decide_eq_true (by omega)
      have t7 : decide (k < ft.length) = true := decide_eq_true hk
      clear hy
      obtain ⟨xab, xao, rfl⟩ := Rw.addr (EL.out.fc 0 rfl) (by omega)
      have E1 := Lib.hid (EL.out.elF 0 rfl rfl (k) hk)
      clear EL
      have u0 := (E1.out.fc 0 rfl).2
      have u1 := (E1.out.fc 1 rfl).2
      cases hm : wth ft[k].1 3
      · have hmm := Lib.hid hm
        have HF : Hid (t = false) := Lib.hid (by cases t with | false => rfl | true => exact absurd (ht.out.2 rfl) (by intro hh; have := hh k hk; rw [fateOk_eq, hm] at this; cases this))
        clear hm
        go_wp2_with fail
        refine (rIn_v hmm.out _).mono ?_
        rintro e w1 ⟨rfl, hb⟩
        have E2 := Lib.hid (E1.out.below hb)
        clear u0 u1 E1 hb
        have z1 := (E2.out.fc 1 rfl).2
        have hfin := Lib.hid E2.out.bel
        go_wp2
        go_ret
        exact ⟨RB HF.out.symm, hfin.out⟩
      · have hmm := Lib.hid hm
        clear hm
        cases hv : wth ft[k].2 1000000
        · have hvv := Lib.hid hv
          have HF : Hid (t = false) := Lib.hid (by cases t with | false => rfl | true => exact absurd (ht.out.2 rfl) (by intro hh; have := hh k hk; rw [fateOk_eq, hmm.out, hv] at this; cases this))
          clear hv
          go_wp2_with fail
          refine (rIn_v hmm.out _).mono ?_
          rintro e w1 ⟨rfl, hb⟩
          have E2 := Lib.hid (E1.out.below hb)
          clear u0 u1 E1 hb
          have z1 := (E2.out.fc 1 rfl).2
          go_wp2_with fail
          refine (rIn_v hvv.out _).mono ?_
          rintro e w2 ⟨rfl, hb⟩
          have E3 := Lib.hid (E2.out.below hb)
          clear z1 E2 hb
          have hfin := Lib.hid E3.out.bel
          go_wp2
          go_ret
          exact ⟨RB HF.out.symm, hfin.out⟩
        · have hvv := Lib.hid hv
          clear hv
          go_wp2_with fail
          refine (rIn_v hmm.out _).mono ?_
          rintro e w1 ⟨rfl, hb⟩
          have E2 := Lib.hid (E1.out.below hb)
          clear u0 u1 E1 hb
          have z1 := (E2.out.fc 1 rfl).2
          go_wp2_with fail
          refine (rIn_v hvv.out _).mono ?_
          rintro e w2 ⟨rfl, hb⟩
          have E3 := Lib.hid (E2.out.below hb)
          clear z1 E2 hb
          have EZ := Lib.hid ((E3.out.forget).forget)
          go_wp2
          go_roundg (ft.length - (k + 1))
          case rel => exact ⟨k + 1, rfl, EZ, Lib.hid ⟨⟨by omega, rfl⟩, fun i h hi => by by_cases e : i = k; (· subst e; rw [fateOk_eq, hmm.out, hvv.out]; rfl); exact HS.out i h (by omega)⟩⟩
          case measure => exact by omega
    have t6 : decide ((k : Int) < (ft.length : Int)) = false := decide_eq_false (by omega)
    have t7 : decide (k < ft.length) = false := decide_eq_false (by omega)
    have HT : Hid (t = true) := Lib.hid (ht.out.1 fun i h => HS.out i h (by omega))
    have HY := Lib.hid hy
    clear hy
    have hfin := Lib.hid EL.out.bel
    go_wp2
    go_ret
    exact ⟨RB HT.out.symm, hfin.out⟩
set_option maxRecDepth 100000 in
set_option maxHeartbeats 1000000 in
theorem lrValid_c {D : Nat → Prop} (l : Lin) {xa xb xc : Option Addr} {xj xk xm : Nat} {w : World} (h1 : Fct.at w D (.ms (.slice xa l.L.length xj) l.L)) (h2 : Fct.at w D (.rw (.slice xb l.ats.length xk) l.ats.length 1 (icl l.ats))) (h3 : Fct.at w D (.rw (.slice xc l.ft.length xm) l.ft.length 2 (fcl l.ft))) {t : Bool} (ht0 : LinOk l ↔ t = true) (hb0 : l.ats.length ≤ 1000000) :
    Calls Try.prog 44 #[.agg #[.int .i64 l.nw, .slice xa l.L.length xj, .slice xb l.ats.length xk, .slice xc l.ft.length xm]] w fun e w' => e = .returned (.bool t) ∧ Below w.heap.size w w' := by
  have E0 := Lib.hid ((((Env.start D w).arg (.ms (.slice xa l.L.length xj) l.L) h1).arg (.rw (.slice xb l.ats.length xk) l.ats.length 1 (icl l.ats)) h2).arg (.rw (.slice xc l.ft.length xm) l.ft.length 2 (fcl l.ft)) h3)
  clear h1 h2 h3
  go_enter Try.func44, Try.ntmps44
  have ht := Lib.hid ht0
  have hbig := hb0
  clear ht0 hb0
  cases h1 : wth l.nw 1099511627776
  · have HF : Hid (t = false) := Lib.hid (by cases t with | false => rfl | true => exact absurd (ht.out.2 rfl) (by intro hh; have := hh.1.1; rw [h1] at this; cases this))
    have H1 := Lib.hid h1
    clear h1
    go_wp2_with fail
    have E1 := Lib.hid ((E0.out.push 64 [.int .i64 l.nw, .slice xa l.L.length xj, .slice xb l.ats.length xk, .slice xc l.ft.length xm] (w.heap.size) (by simp)))
    refine (rIn_v H1.out _).mono ?_
    rintro e w1 ⟨rfl, hb⟩
    have E2 := Lib.hid (E1.out.below hb)
    clear E0 E1 hb
    have b1 := E2.out.bx 0 rfl
    have c1_1 := b1.cell 1 rfl
    clear b1
    have b2 := E2.out.bx 0 rfl
    have c2_2 := b2.cell 2 rfl
    clear b2
    have b3 := E2.out.bx 0 rfl
    have c3_3 := b3.cell 3 rfl
    clear b3
    have hfin := Lib.hid E2.out.bel
    go_wp2
    go_ret
    exact ⟨RB HF.out.symm, hfin.out⟩
  · skip
    have H1 := Lib.hid h1
    clear h1
    by_cases h2 : l.L.length = l.ats.length
    rotate_left
    · have HF : Hid (t = false) := Lib.hid (by cases t with | false => rfl | true => exact absurd (ht.out.2 rfl) (by intro hh; exact h2 hh.1.2.1))
      have t2 : (l.L.length != l.ats.length) = true := by simpa using h2
      have t3 : ((l.L.length : Int) != (l.ats.length : Int)) = true := by simp only [bne_iff_ne, ne_eq]; omega
      clear h2
      go_wp2_with fail
      have E1 := Lib.hid ((E0.out.push 64 [.int .i64 l.nw, .slice xa l.L.length xj, .slice xb l.ats.length xk, .slice xc l.ft.length xm] (w.heap.size) (by simp)))
      refine (rIn_v H1.out _).mono ?_
      rintro e w1 ⟨rfl, hb⟩
      have E2 := Lib.hid (E1.out.below hb)
      clear E0 E1 hb
      have b1 := E2.out.bx 0 rfl
      have c1_1 := b1.cell 1 rfl
      clear b1
      have b2 := E2.out.bx 0 rfl
      have c2_2 := b2.cell 2 rfl
      clear b2
      have b3 := E2.out.bx 0 rfl
      have c3_3 := b3.cell 3 rfl
      clear b3
      have hfin := Lib.hid E2.out.bel
      go_wp2
      go_ret
      exact ⟨RB HF.out.symm, hfin.out⟩
    have t2 : (l.L.length != l.ats.length) = false := by simpa using h2
    have t3 : ((l.L.length : Int) != (l.ats.length : Int)) = false := by simp only [bne_eq_false_iff_eq]; omega
    have H2 := Lib.hid h2
    clear h2
    by_cases h3 : l.L.length ≤ 1000
    rotate_left
    · have HF : Hid (t = false) := Lib.hid (by cases t with | false => rfl | true => exact absurd (ht.out.2 rfl) (by intro hh; exact h3 hh.1.2.2.1))
      have t4 : decide ((1000 : Int) < (l.L.length : Int)) = true := decide_eq_true (by omega)
      go_wp2_with fail
      have E1 := Lib.hid ((E0.out.push 64 [.int .i64 l.nw, .slice xa l.L.length xj, .slice xb l.ats.length xk, .slice xc l.ft.length xm] (w.heap.size) (by simp)))
      refine (rIn_v H1.out _).mono ?_
      rintro e w1 ⟨rfl, hb⟩
      have E2 := Lib.hid (E1.out.below hb)
      clear E0 E1 hb
      have b1 := E2.out.bx 0 rfl
      have c1_1 := b1.cell 1 rfl
      clear b1
      have b2 := E2.out.bx 0 rfl
      have c2_2 := b2.cell 2 rfl
      clear b2
      have b3 := E2.out.bx 0 rfl
      have c3_3 := b3.cell 3 rfl
      clear b3
      have hfin := Lib.hid E2.out.bel
      go_wp2
      go_ret
      exact ⟨RB HF.out.symm, hfin.out⟩
    have t4 : decide ((1000 : Int) < (l.L.length : Int)) = false := decide_eq_false (by omega)
    by_cases h4 : l.ft.length ≤ 1000
    rotate_left
    · have HF : Hid (t = false) := Lib.hid (by cases t with | false => rfl | true => exact absurd (ht.out.2 rfl) (by intro hh; exact h4 hh.1.2.2.2))
      have t5 : decide ((1000 : Int) < (l.ft.length : Int)) = true := decide_eq_true (by omega)
      go_wp2_with fail
      have E1 := Lib.hid ((E0.out.push 64 [.int .i64 l.nw, .slice xa l.L.length xj, .slice xb l.ats.length xk, .slice xc l.ft.length xm] (w.heap.size) (by simp)))
      refine (rIn_v H1.out _).mono ?_
      rintro e w1 ⟨rfl, hb⟩
      have E2 := Lib.hid (E1.out.below hb)
      clear E0 E1 hb
      have b1 := E2.out.bx 0 rfl
      have c1_1 := b1.cell 1 rfl
      clear b1
      have b2 := E2.out.bx 0 rfl
      have c2_2 := b2.cell 2 rfl
      clear b2
      have b3 := E2.out.bx 0 rfl
      have c3_3 := b3.cell 3 rfl
      clear b3
      have hfin := Lib.hid E2.out.bel
      go_wp2
      go_ret
      exact ⟨RB HF.out.symm, hfin.out⟩
    have t5 : decide ((1000 : Int) < (l.ft.length : Int)) = false := decide_eq_false (by omega)
    by_cases h5 : FatsOk l.ft
    rotate_left
    · have HF : Hid (t = false) := Lib.hid (by cases t with | false => rfl | true => exact absurd (ht.out.2 rfl) (by intro hh; exact h5 hh.2.2.2))
      go_wp2_with fail
      have E1 := Lib.hid ((E0.out.push 64 [.int .i64 l.nw, .slice xa l.L.length xj, .slice xb l.ats.length xk, .slice xc l.ft.length xm] (w.heap.size) (by simp)))
      refine (rIn_v H1.out _).mono ?_
      rintro e w1 ⟨rfl, hb⟩
      have E2 := Lib.hid (E1.out.below hb)
      clear E0 E1 hb
      have b1 := E2.out.bx 0 rfl
      have c1_1 := b1.cell 1 rfl
      clear b1
      have b2 := E2.out.bx 0 rfl
      have c2_2 := b2.cell 2 rfl
      clear b2
      have b3 := E2.out.bx 0 rfl
      have c3_3 := b3.cell 3 rfl
      clear b3
      go_wp2_with fail
      refine (rFates_c l.ft (t := false) (E2.out.fc 0 rfl) (by simp [h5]) (by omega)).mono ?_
      rintro e w2 ⟨rfl, hb⟩
      have E3 := Lib.hid (E2.out.below hb)
      clear c1_1 c2_2 c3_3 E2 hb
      have hfin := Lib.hid E3.out.bel
      go_wp2
      go_ret
      exact ⟨RB HF.out.symm, hfin.out⟩
    have H5 := Lib.hid h5
    clear h5
    go_wp2_with fail
    have E1 := Lib.hid ((E0.out.push 64 [.int .i64 l.nw, .slice xa l.L.length xj, .slice xb l.ats.length xk, .slice xc l.ft.length xm] (w.heap.size) (by simp)))
    refine (rIn_v H1.out _).mono ?_
    rintro e w1 ⟨rfl, hb⟩
    have E2 := Lib.hid (E1.out.below hb)
    clear E0 E1 hb
    have b1 := E2.out.bx 0 rfl
    have c1_1 := b1.cell 1 rfl
    clear b1
    have b2 := E2.out.bx 0 rfl
    have c2_2 := b2.cell 2 rfl
    clear b2
    have b3 := E2.out.bx 0 rfl
    have c3_3 := b3.cell 3 rfl
    clear b3
    go_wp2_with fail
    refine (rFates_c l.ft (t := true) (E2.out.fc 0 rfl) (by simp [H5.out]) (by omega)).mono ?_
    rintro e w2 ⟨rfl, hb⟩
    have E3 := Lib.hid (E2.out.below hb)
    clear c1_1 c2_2 c3_3 E2 hb
    go_wp2_with fail
    go_loopg [3] (l.L.length) (fun gk s3 wr => ∃ (k : Nat), s3 = .int .i64 (k : Int) ∧ Hid (Env D w [(w.heap.size, 64, [.int .i64 l.nw, .slice xa l.L.length xj, .slice xb l.ats.length xk, .slice xc l.ft.length xm])] [.rw (.slice xc l.ft.length xm) l.ft.length 2 (fcl l.ft), .rw (.slice xb l.ats.length xk) l.ats.length 1 (icl l.ats), .ms (.slice xa l.L.length xj) l.L] wr) ∧ Hid ((k ≤ l.L.length ∧ gk = l.L.length - k) ∧ ∀ i (h : i < l.L.length) (h' : i < l.ats.length), i < k → (msgOk l.L[i] = true ∧ wth l.ats[i] 1099512627776 = true) ∧ ∀ j (hj : j + 1 = i), l.ats[j]'(by omega) ≤ l.ats[i]))
    case atStart => exact ⟨0, rfl, Lib.hid E3.out, Lib.hid ⟨⟨Nat.zero_le _, rfl⟩, fun i _ _ h => absurd h (Nat.not_lt_zero _)⟩⟩
    case round =>
      clear E3
      obtain ⟨k, rfl, EL, HA⟩ := hrel
      obtain ⟨⟨a1, a2⟩, a3⟩ := HA.out
      have HS := Lib.hid a3
      clear a3 HA
      by_cases hy : k = l.L.length
      rotate_left
      · have hk : k < l.L.length := by omega
        have t6 : decide ((k : Int) < (l.L.length : Int)) = true := decide_eq_true (by omega)
        have t7 : decide (k < l.L.length) = true := decide_eq_true hk
        have hk2 : k < l.ats.length := by have := H2.out; omega
        clear hy
        obtain ⟨xab, xao, rfl⟩ := Ms.addr (EL.out.fc 2 rfl) hk
        obtain ⟨ua, uk, E40⟩ := EL.out.els 2 rfl (k) hk
        have E4 : Hid (Env D w [(w.heap.size, 64, [.int .i64 l.nw, .slice (some ⟨xab, xao, none⟩) l.L.length xj, .slice xb l.ats.length xk, .slice xc l.ft.length xm])] [.ce xab (xao + k * 5) (.int .i64 l.L[k].fr), .ce xab (xao + k * 5 + 1) (.int .i64 l.L[k].to_), .ce xab (xao + k * 5 + 2) (.int .i64 l.L[k].kd), .ce xab (xao + k * 5 + 3) (.int .i64 l.L[k].nm), .ce xab (xao + k * 5 + 4) (.slice ua l.L[k].body.length uk), .bs (.slice ua l.L[k].body.length uk) l.L[k].body, .rw (.slice xc l.ft.length xm) l.ft.length 2 (fcl l.ft), .rw (.slice xb l.ats.length xk) l.ats.length 1 (icl l.ats), .ms (.slice (some ⟨xab, xao, none⟩) l.L.length xj) l.L] _) := Lib.hid E40
        clear E40 EL
        have u0 := (E4.out.fc 0 rfl).2
        have u1 := (E4.out.fc 1 rfl).2
        have u2 := (E4.out.fc 2 rfl).2
        have u3 := (E4.out.fc 3 rfl).2
        have u4 := (E4.out.fc 4 rfl).2
        obtain ⟨xbb, xbo, rfl⟩ := Rw.addr (E4.out.fc 7 rfl) (by omega)
        have E5 := Lib.hid (E4.out.elI 7 rfl rfl (k) hk2)
        clear E4
        have v0 := (E5.out.fc 0 rfl).2
        have b4 := E5.out.bx 0 rfl
        have c4_1 := b4.cell 1 rfl
        clear b4
        cases hm : msgOk l.L[k]
        · have hmm := Lib.hid hm
          have HF : Hid (t = false) := Lib.hid (by cases t with | false => rfl | true => exact absurd (ht.out.2 rfl) (by intro hh; have := (hh.2.2.1 k hk hk2).1; rw [hm] at this; cases this))
          clear hm
          go_wp2_with fail
          have E6 := Lib.hid E5.out.drew
          clear u0 u1 u2 u3 u4 v0 c4_1 E5
          refine wp_regionU (S := fun w' => w'.cell? ⟨w.heap.size, 1, none⟩ = some (.slice (some ⟨xab, xao, none⟩) l.L.length xj) ∧ w'.cell? ⟨xab, xao + k * 5, none⟩ = some (.int .i64 l.L[k].fr) ∧ w'.cell? ⟨xab, xao + k * 5 + 1, none⟩ = some (.int .i64 l.L[k].to_) ∧ w'.cell? ⟨xab, xao + k * 5 + 2, none⟩ = some (.int .i64 l.L[k].kd) ∧ w'.cell? ⟨xab, xao + k * 5 + 3, none⟩ = some (.int .i64 l.L[k].nm) ∧ w'.cell? ⟨xab, xao + k * 5 + 4, none⟩ = some (.slice ua l.L[k].body.length uk) ∧ w'.cell? ⟨xbb, xbo + k, none⟩ = some (.int .i64 l.ats[k])) [] (by kernel_rfl) (⟨((E6.out.bx 0 rfl).cell 1 rfl), (E6.out.fc 1 rfl).2, (E6.out.fc 2 rfl).2, (E6.out.fc 3 rfl).2, (E6.out.fc 4 rfl).2, (E6.out.fc 5 rfl).2, (E6.out.fc 0 rfl).2⟩) (fun hHeld => ?_)
          generalize wr.drew = w3 at *
          refine uTake (i := 0) (some 42) (v := ?_) rfl rfl (by kernel_rfl) (by kernel_rfl) (by kernel_rfl) (by kernel_rfl) (fun _ _ _ h => h) (by rfl) (by assumption) ?_ ?_
          rotate_left
          · (intro wS hSw; (try dsimp only at hSw); go_simp; try with_reducible rfl)
          try simp only [Act.put, List.setIfInBounds_toArray, List.set_cons_zero, List.set_cons_succ]
          refine uTake (i := 1) (some 43) (v := ?_) rfl rfl (by kernel_rfl) (by kernel_rfl) (by kernel_rfl) (by kernel_rfl) (fun _ _ _ h => h) (by rfl) (by assumption) ?_ ?_
          rotate_left
          · (intro wS hSw; (try dsimp only at hSw); go_simp; try with_reducible rfl)
          try simp only [Act.put, List.setIfInBounds_toArray, List.set_cons_zero, List.set_cons_succ]
          refine uTake (i := 2) (some 44) (v := ?_) rfl rfl (by kernel_rfl) (by kernel_rfl) (by kernel_rfl) (by kernel_rfl) (fun _ _ _ h => h) (by rfl) (by assumption) ?_ ?_
          rotate_left
          · (intro wS hSw; (try dsimp only at hSw); go_simp; try with_reducible rfl)
          try simp only [Act.put, List.setIfInBounds_toArray, List.set_cons_zero, List.set_cons_succ]
          refine uTake (i := 3) (some 45) (v := ?_) rfl rfl (by kernel_rfl) (by kernel_rfl) (by kernel_rfl) (by kernel_rfl) (fun _ _ _ h => h) (by rfl) (by assumption) ?_ ?_
          rotate_left
          · (intro wS hSw; (try dsimp only at hSw); go_simp; try with_reducible rfl)
          try simp only [Act.put, List.setIfInBounds_toArray, List.set_cons_zero, List.set_cons_succ]
          refine uTake (i := 4) (some 46) (v := ?_) rfl rfl (by kernel_rfl) (by kernel_rfl) (by kernel_rfl) (by kernel_rfl) (fun _ _ _ h => h) (by rfl) (by assumption) ?_ ?_
          rotate_left
          · (intro wS hSw; (try dsimp only at hSw); go_simp; try with_reducible rfl)
          try simp only [Act.put, List.setIfInBounds_toArray, List.set_cons_zero, List.set_cons_succ]
          refine uReady (rs := [5]) (by kernel_rfl) (by simp) ?_
          refine ReadyU.cons rfl (fun KK hKK => ?_) ReadyU.nil
          go_simp
          refine (lrMessage_v l.L[k] hmm.out _ _ _).mono ?_
          rintro e w4 ⟨rfl, hb⟩
          have E7 := Lib.hid (E6.out.below hb)
          clear E6 hb
          (try dsimp only)
          clear hHeld
          refine hKK.out _ _ (⟨((E7.out.bx 0 rfl).cell 1 rfl), (E7.out.fc 1 rfl).2, (E7.out.fc 2 rfl).2, (E7.out.fc 3 rfl).2, (E7.out.fc 4 rfl).2, (E7.out.fc 5 rfl).2, (E7.out.fc 0 rfl).2⟩) (fun hHeld => ?_)
          clear hKK KK
          try simp only [Act.put, List.setIfInBounds_toArray, List.set_cons_zero, List.set_cons_succ]
          refine uTake (i := 6) (some 48) (v := ?_) rfl rfl (by kernel_rfl) (by kernel_rfl) (by kernel_rfl) (by kernel_rfl) (fun _ _ _ h => h) (by rfl) (by assumption) ?_ ?_
          rotate_left
          · (intro wS hSw; (try dsimp only at hSw); go_simp; try with_reducible rfl)
          try simp only [Act.put, List.setIfInBounds_toArray, List.set_cons_zero, List.set_cons_succ]
          refine uTake (i := 7) (some 49) (v := ?_) rfl rfl (by kernel_rfl) (by kernel_rfl) (by kernel_rfl) (by kernel_rfl) (fun _ _ _ h => h) (by rfl) (by assumption) ?_ ?_
          rotate_left
          · (intro wS hSw; (try dsimp only at hSw); go_simp; try with_reducible rfl)
          try simp only [Act.put, List.setIfInBounds_toArray, List.set_cons_zero, List.set_cons_succ]
          refine uPass (i := 8) (some 50) rfl rfl (by kernel_rfl) (by kernel_rfl) (by kernel_rfl) (by kernel_rfl) (fun _ _ _ h => h) (by rfl) (by assumption) ?_
          try simp only [Act.put, List.setIfInBounds_toArray, List.set_cons_zero, List.set_cons_succ]
          refine uPass (i := 9) (some 51) rfl rfl (by kernel_rfl) (by kernel_rfl) (by kernel_rfl) (by kernel_rfl) (fun _ _ _ h => h) (by rfl) (by assumption) ?_
          try simp only [Act.put, List.setIfInBounds_toArray, List.set_cons_zero, List.set_cons_succ]
          refine uPass (i := 10) (some 52) rfl rfl (by kernel_rfl) (by kernel_rfl) (by kernel_rfl) (by kernel_rfl) (fun _ _ _ h => h) (by rfl) (by assumption) ?_
          try simp only [Act.put, List.setIfInBounds_toArray, List.set_cons_zero, List.set_cons_succ]
          refine uPass (i := 11) (some 53) rfl rfl (by kernel_rfl) (by kernel_rfl) (by kernel_rfl) (by kernel_rfl) (fun _ _ _ h => h) (by rfl) (by assumption) ?_
          try simp only [Act.put, List.setIfInBounds_toArray, List.set_cons_zero, List.set_cons_succ]
          refine uPass (i := 12) (some 54) rfl rfl (by kernel_rfl) (by kernel_rfl) (by kernel_rfl) (by kernel_rfl) (fun _ _ _ h => h) (by rfl) (by assumption) ?_
          try simp only [Act.put, List.setIfInBounds_toArray, List.set_cons_zero, List.set_cons_succ]
          refine uPass (i := 13) (some 55) rfl rfl (by kernel_rfl) (by kernel_rfl) (by kernel_rfl) (by kernel_rfl) (fun _ _ _ h => h) (by rfl) (by assumption) ?_
          try simp only [Act.put, List.setIfInBounds_toArray, List.set_cons_zero, List.set_cons_succ]
          refine uPass (i := 14) (some 56) rfl rfl (by kernel_rfl) (by kernel_rfl) (by kernel_rfl) (by kernel_rfl) (fun _ _ _ h => h) (by rfl) (by assumption) ?_
          try simp only [Act.put, List.setIfInBounds_toArray, List.set_cons_zero, List.set_cons_succ]
          refine uTake (i := 15) (some 57) (v := ?_) rfl rfl (by kernel_rfl) (by kernel_rfl) (by kernel_rfl) (by kernel_rfl) (fun _ _ _ h => h) (by rfl) (by assumption) ?_ ?_
          rotate_left
          · (intro wS hSw; (try dsimp only at hSw); go_simp; try with_reducible rfl)
          try simp only [Act.put, List.setIfInBounds_toArray, List.set_cons_zero, List.set_cons_succ]
          refine uTake (i := 16) (some 58) (v := ?_) rfl rfl (by kernel_rfl) (by kernel_rfl) (by kernel_rfl) (by kernel_rfl) (fun _ _ _ h => h) (by rfl) (by assumption) ?_ ?_
          rotate_left
          · (intro wS hSw; (try dsimp only at hSw); go_simp; try with_reducible rfl)
          try simp only [Act.put, List.setIfInBounds_toArray, List.set_cons_zero, List.set_cons_succ]
          refine uPass (i := 17) (some 59) rfl rfl (by kernel_rfl) (by kernel_rfl) (by kernel_rfl) (by kernel_rfl) (fun _ _ _ h => h) (by rfl) (by assumption) ?_
          try simp only [Act.put, List.setIfInBounds_toArray, List.set_cons_zero, List.set_cons_succ]
          refine uPass (i := 18) (some 60) rfl rfl (by kernel_rfl) (by kernel_rfl) (by kernel_rfl) (by kernel_rfl) (fun _ _ _ h => h) (by rfl) (by assumption) ?_
          try simp only [Act.put, List.setIfInBounds_toArray, List.set_cons_zero, List.set_cons_succ]
          refine uPass (i := 19) (some 61) rfl rfl (by kernel_rfl) (by kernel_rfl) (by kernel_rfl) (by kernel_rfl) (fun _ _ _ h => h) (by rfl) (by assumption) ?_
          try simp only [Act.put, List.setIfInBounds_toArray, List.set_cons_zero, List.set_cons_succ]
          refine uPass (i := 20) (some 62) rfl rfl (by kernel_rfl) (by kernel_rfl) (by kernel_rfl) (by kernel_rfl) (fun _ _ _ h => h) (by rfl) (by assumption) ?_
          try simp only [Act.put, List.setIfInBounds_toArray, List.set_cons_zero, List.set_cons_succ]
          refine uPass (i := 21) (some 63) rfl rfl (by kernel_rfl) (by kernel_rfl) (by kernel_rfl) (by kernel_rfl) (fun _ _ _ h => h) (by rfl) (by assumption) ?_
          try simp only [Act.put, List.setIfInBounds_toArray, List.set_cons_zero, List.set_cons_succ]
          refine uPass (i := 22) (some 64) rfl rfl (by kernel_rfl) (by kernel_rfl) (by kernel_rfl) (by kernel_rfl) (fun _ _ _ h => h) (by rfl) (by assumption) ?_
          try simp only [Act.put, List.setIfInBounds_toArray, List.set_cons_zero, List.set_cons_succ]
          refine uPass (i := 23) (some 65) rfl rfl (by kernel_rfl) (by kernel_rfl) (by kernel_rfl) (by kernel_rfl) (fun _ _ _ h => h) (by rfl) (by assumption) ?_
          try simp only [Act.put, List.setIfInBounds_toArray, List.set_cons_zero, List.set_cons_succ]
          refine uPass (i := 24) (some 66) rfl rfl (by kernel_rfl) (by kernel_rfl) (by kernel_rfl) (by kernel_rfl) (fun _ _ _ h => h) (by rfl) (by assumption) ?_
          try simp only [Act.put, List.setIfInBounds_toArray, List.set_cons_zero, List.set_cons_succ]
          refine uPass (i := 25) (some 67) rfl rfl (by kernel_rfl) (by kernel_rfl) (by kernel_rfl) (by kernel_rfl) (fun _ _ _ h => h) (by rfl) (by assumption) ?_
          try simp only [Act.put, List.setIfInBounds_toArray, List.set_cons_zero, List.set_cons_succ]
          refine uPass (i := 26) (some 68) rfl rfl (by kernel_rfl) (by kernel_rfl) (by kernel_rfl) (by kernel_rfl) (fun _ _ _ h => h) (by rfl) (by assumption) ?_
          try simp only [Act.put, List.setIfInBounds_toArray, List.set_cons_zero, List.set_cons_succ]
          refine uPass (i := 27) (some 69) rfl rfl (by kernel_rfl) (by kernel_rfl) (by kernel_rfl) (by kernel_rfl) (fun _ _ _ h => h) (by rfl) (by assumption) ?_
          try simp only [Act.put, List.setIfInBounds_toArray, List.set_cons_zero, List.set_cons_succ]
          refine uPass (i := 28) (some 70) rfl rfl (by kernel_rfl) (by kernel_rfl) (by kernel_rfl) (by kernel_rfl) (fun _ _ _ h => h) (by rfl) (by assumption) ?_
          try simp only [Act.put, List.setIfInBounds_toArray, List.set_cons_zero, List.set_cons_succ]
          refine uPass (i := 29) (some 71) rfl rfl (by kernel_rfl) (by kernel_rfl) (by kernel_rfl) (by kernel_rfl) (fun _ _ _ h => h) (by rfl) (by assumption) ?_
          try simp only [Act.put, List.setIfInBounds_toArray, List.set_cons_zero, List.set_cons_succ]
          refine uPass (i := 30) (some 72) rfl rfl (by kernel_rfl) (by kernel_rfl) (by kernel_rfl) (by kernel_rfl) (fun _ _ _ h => h) (by rfl) (by assumption) ?_
          try simp only [Act.put, List.setIfInBounds_toArray, List.set_cons_zero, List.set_cons_succ]
          refine uPass (i := 31) (some 73) rfl rfl (by kernel_rfl) (by kernel_rfl) (by kernel_rfl) (by kernel_rfl) (fun _ _ _ h => h) (by rfl) (by assumption) ?_
          try simp only [Act.put, List.setIfInBounds_toArray, List.set_cons_zero, List.set_cons_succ]
          refine uPass (i := 32) (some 74) rfl rfl (by kernel_rfl) (by kernel_rfl) (by kernel_rfl) (by kernel_rfl) (fun _ _ _ h => h) (by rfl) (by assumption) ?_
          try simp only [Act.put, List.setIfInBounds_toArray, List.set_cons_zero, List.set_cons_succ]
          refine uTake (i := 33) (some 75) (v := ?_) rfl rfl (by kernel_rfl) (by kernel_rfl) (by kernel_rfl) (by kernel_rfl) (fun _ _ _ h => h) (by rfl) (by assumption) ?_ ?_
          rotate_left
          · (intro wS hSw; (try dsimp only at hSw); go_simp; try with_reducible rfl)
          try simp only [Act.put, List.setIfInBounds_toArray, List.set_cons_zero, List.set_cons_succ]
          refine uDone (by kernel_rfl) ?_ _
          have hfin := Lib.hid E7.out.bel
          go_wp2
          go_ret
          exact ⟨RB HF.out.symm, hfin.out⟩
        · have hmm := Lib.hid hm
          clear hm
          cases hv : wth l.ats[k] 1099512627776
          · have hvv := Lib.hid hv
            have HF : Hid (t = false) := Lib.hid (by cases t with | false => rfl | true => exact absurd (ht.out.2 rfl) (by intro hh; have := (hh.2.2.1 k hk hk2).2; rw [hv] at this; cases this))
            clear hv
            go_wp2_with fail
            have E6 := Lib.hid E5.out.drew
            clear u0 u1 u2 u3 u4 v0 c4_1 E5
            refine wp_regionU (S := fun w' => w'.cell? ⟨w.heap.size, 1, none⟩ = some (.slice (some ⟨xab, xao, none⟩) l.L.length xj) ∧ w'.cell? ⟨w.heap.size, 2, none⟩ = some (.slice (some ⟨xbb, xbo, none⟩) l.ats.length xk) ∧ w'.cell? ⟨xab, xao + k * 5, none⟩ = some (.int .i64 l.L[k].fr) ∧ w'.cell? ⟨xab, xao + k * 5 + 1, none⟩ = some (.int .i64 l.L[k].to_) ∧ w'.cell? ⟨xab, xao + k * 5 + 2, none⟩ = some (.int .i64 l.L[k].kd) ∧ w'.cell? ⟨xab, xao + k * 5 + 3, none⟩ = some (.int .i64 l.L[k].nm) ∧ w'.cell? ⟨xab, xao + k * 5 + 4, none⟩ = some (.slice ua l.L[k].body.length uk) ∧ w'.cell? ⟨xbb, xbo + k, none⟩ = some (.int .i64 l.ats[k])) [] (by kernel_rfl) (⟨((E6.out.bx 0 rfl).cell 1 rfl), ((E6.out.bx 0 rfl).cell 2 rfl), (E6.out.fc 1 rfl).2, (E6.out.fc 2 rfl).2, (E6.out.fc 3 rfl).2, (E6.out.fc 4 rfl).2, (E6.out.fc 5 rfl).2, (E6.out.fc 0 rfl).2⟩) (fun hHeld => ?_)
            generalize wr.drew = w3 at *
            refine uTake (i := 0) (some 42) (v := ?_) rfl rfl (by kernel_rfl) (by kernel_rfl) (by kernel_rfl) (by kernel_rfl) (fun _ _ _ h => h) (by rfl) (by assumption) ?_ ?_
            rotate_left
            · (intro wS hSw; (try dsimp only at hSw); go_simp; try with_reducible rfl)
            try simp only [Act.put, List.setIfInBounds_toArray, List.set_cons_zero, List.set_cons_succ]
            refine uTake (i := 1) (some 43) (v := ?_) rfl rfl (by kernel_rfl) (by kernel_rfl) (by kernel_rfl) (by kernel_rfl) (fun _ _ _ h => h) (by rfl) (by assumption) ?_ ?_
            rotate_left
            · (intro wS hSw; (try dsimp only at hSw); go_simp; try with_reducible rfl)
            try simp only [Act.put, List.setIfInBounds_toArray, List.set_cons_zero, List.set_cons_succ]
            refine uTake (i := 2) (some 44) (v := ?_) rfl rfl (by kernel_rfl) (by kernel_rfl) (by kernel_rfl) (by kernel_rfl) (fun _ _ _ h => h) (by rfl) (by assumption) ?_ ?_
            rotate_left
            · (intro wS hSw; (try dsimp only at hSw); go_simp; try with_reducible rfl)
            try simp only [Act.put, List.setIfInBounds_toArray, List.set_cons_zero, List.set_cons_succ]
            refine uTake (i := 3) (some 45) (v := ?_) rfl rfl (by kernel_rfl) (by kernel_rfl) (by kernel_rfl) (by kernel_rfl) (fun _ _ _ h => h) (by rfl) (by assumption) ?_ ?_
            rotate_left
            · (intro wS hSw; (try dsimp only at hSw); go_simp; try with_reducible rfl)
            try simp only [Act.put, List.setIfInBounds_toArray, List.set_cons_zero, List.set_cons_succ]
            refine uTake (i := 4) (some 46) (v := ?_) rfl rfl (by kernel_rfl) (by kernel_rfl) (by kernel_rfl) (by kernel_rfl) (fun _ _ _ h => h) (by rfl) (by assumption) ?_ ?_
            rotate_left
            · (intro wS hSw; (try dsimp only at hSw); go_simp; try with_reducible rfl)
            try simp only [Act.put, List.setIfInBounds_toArray, List.set_cons_zero, List.set_cons_succ]
            refine uReady (rs := [5]) (by kernel_rfl) (by simp) ?_
            refine ReadyU.cons rfl (fun KK hKK => ?_) ReadyU.nil
            go_simp
            refine (lrMessage_v l.L[k] hmm.out _ _ _).mono ?_
            rintro e w4 ⟨rfl, hb⟩
            have E7 := Lib.hid (E6.out.below hb)
            clear E6 hb
            (try dsimp only)
            clear hHeld
            refine hKK.out _ _ (⟨((E7.out.bx 0 rfl).cell 1 rfl), ((E7.out.bx 0 rfl).cell 2 rfl), (E7.out.fc 1 rfl).2, (E7.out.fc 2 rfl).2, (E7.out.fc 3 rfl).2, (E7.out.fc 4 rfl).2, (E7.out.fc 5 rfl).2, (E7.out.fc 0 rfl).2⟩) (fun hHeld => ?_)
            clear hKK KK
            try simp only [Act.put, List.setIfInBounds_toArray, List.set_cons_zero, List.set_cons_succ]
            refine uTake (i := 6) (some 48) (v := ?_) rfl rfl (by kernel_rfl) (by kernel_rfl) (by kernel_rfl) (by kernel_rfl) (fun _ _ _ h => h) (by rfl) (by assumption) ?_ ?_
            rotate_left
            · (intro wS hSw; (try dsimp only at hSw); go_simp; try with_reducible rfl)
            try simp only [Act.put, List.setIfInBounds_toArray, List.set_cons_zero, List.set_cons_succ]
            refine uTake (i := 7) (some 49) (v := ?_) rfl rfl (by kernel_rfl) (by kernel_rfl) (by kernel_rfl) (by kernel_rfl) (fun _ _ _ h => h) (by rfl) (by assumption) ?_ ?_
            rotate_left
            · (intro wS hSw; (try dsimp only at hSw); go_simp; try with_reducible rfl)
            try simp only [Act.put, List.setIfInBounds_toArray, List.set_cons_zero, List.set_cons_succ]
            refine uTake (i := 8) (some 50) (v := ?_) rfl rfl (by kernel_rfl) (by kernel_rfl) (by kernel_rfl) (by kernel_rfl) (fun _ _ _ h => h) (by rfl) (by assumption) ?_ ?_
            rotate_left
            · (intro wS hSw; (try dsimp only at hSw); go_simp; try with_reducible rfl)
            try simp only [Act.put, List.setIfInBounds_toArray, List.set_cons_zero, List.set_cons_succ]
            refine uTake (i := 9) (some 51) (v := ?_) rfl rfl (by kernel_rfl) (by kernel_rfl) (by kernel_rfl) (by kernel_rfl) (fun _ _ _ h => h) (by rfl) (by assumption) ?_ ?_
            rotate_left
            · (intro wS hSw; (try dsimp only at hSw); go_simp; try with_reducible rfl)
            try simp only [Act.put, List.setIfInBounds_toArray, List.set_cons_zero, List.set_cons_succ]
            refine uTake (i := 10) (some 52) (v := ?_) rfl rfl (by kernel_rfl) (by kernel_rfl) (by kernel_rfl) (by kernel_rfl) (fun _ _ _ h => h) (by rfl) (by assumption) ?_ ?_
            rotate_left
            · (intro wS hSw; (try dsimp only at hSw); go_simp; try with_reducible rfl)
            try simp only [Act.put, List.setIfInBounds_toArray, List.set_cons_zero, List.set_cons_succ]
            refine uTake (i := 11) (some 53) (v := ?_) rfl rfl (by kernel_rfl) (by kernel_rfl) (by kernel_rfl) (by kernel_rfl) (fun _ _ _ h => h) (by rfl) (by assumption) ?_ ?_
            rotate_left
            · (intro wS hSw; (try dsimp only at hSw); go_simp; try with_reducible rfl)
            try simp only [Act.put, List.setIfInBounds_toArray, List.set_cons_zero, List.set_cons_succ]
            refine uTake (i := 12) (some 54) (v := ?_) rfl rfl (by kernel_rfl) (by kernel_rfl) (by kernel_rfl) (by kernel_rfl) (fun _ _ _ h => h) (by rfl) (by assumption) ?_ ?_
            rotate_left
            · (intro wS hSw; (try dsimp only at hSw); go_simp; try with_reducible rfl)
            try simp only [Act.put, List.setIfInBounds_toArray, List.set_cons_zero, List.set_cons_succ]
            refine uReady (rs := [13]) (by kernel_rfl) (by simp) ?_
            refine ReadyU.cons rfl (fun KK hKK => ?_) ReadyU.nil
            go_simp
            refine (rIn_v hvv.out _).mono ?_
            rintro e w5 ⟨rfl, hb⟩
            have E8 := Lib.hid (E7.out.below hb)
            clear E7 hb
            (try dsimp only)
            clear hHeld
            refine hKK.out _ _ (⟨((E8.out.bx 0 rfl).cell 1 rfl), ((E8.out.bx 0 rfl).cell 2 rfl), (E8.out.fc 1 rfl).2, (E8.out.fc 2 rfl).2, (E8.out.fc 3 rfl).2, (E8.out.fc 4 rfl).2, (E8.out.fc 5 rfl).2, (E8.out.fc 0 rfl).2⟩) (fun hHeld => ?_)
            clear hKK KK
            try simp only [Act.put, List.setIfInBounds_toArray, List.set_cons_zero, List.set_cons_succ]
            refine uTake (i := 14) (some 56) (v := ?_) rfl rfl (by kernel_rfl) (by kernel_rfl) (by kernel_rfl) (by kernel_rfl) (fun _ _ _ h => h) (by rfl) (by assumption) ?_ ?_
            rotate_left
            · (intro wS hSw; (try dsimp only at hSw); go_simp; try with_reducible rfl)
            try simp only [Act.put, List.setIfInBounds_toArray, List.set_cons_zero, List.set_cons_succ]
            refine uTake (i := 15) (some 57) (v := ?_) rfl rfl (by kernel_rfl) (by kernel_rfl) (by kernel_rfl) (by kernel_rfl) (fun _ _ _ h => h) (by rfl) (by assumption) ?_ ?_
            rotate_left
            · (intro wS hSw; (try dsimp only at hSw); go_simp; try with_reducible rfl)
            try simp only [Act.put, List.setIfInBounds_toArray, List.set_cons_zero, List.set_cons_succ]
            refine uTake (i := 16) (some 58) (v := ?_) rfl rfl (by kernel_rfl) (by kernel_rfl) (by kernel_rfl) (by kernel_rfl) (fun _ _ _ h => h) (by rfl) (by assumption) ?_ ?_
            rotate_left
            · (intro wS hSw; (try dsimp only at hSw); go_simp; try with_reducible rfl)
            try simp only [Act.put, List.setIfInBounds_toArray, List.set_cons_zero, List.set_cons_succ]
            refine uPass (i := 17) (some 59) rfl rfl (by kernel_rfl) (by kernel_rfl) (by kernel_rfl) (by kernel_rfl) (fun _ _ _ h => h) (by rfl) (by assumption) ?_
            try simp only [Act.put, List.setIfInBounds_toArray, List.set_cons_zero, List.set_cons_succ]
            refine uPass (i := 18) (some 60) rfl rfl (by kernel_rfl) (by kernel_rfl) (by kernel_rfl) (by kernel_rfl) (fun _ _ _ h => h) (by rfl) (by assumption) ?_
            try simp only [Act.put, List.setIfInBounds_toArray, List.set_cons_zero, List.set_cons_succ]
            refine uPass (i := 19) (some 61) rfl rfl (by kernel_rfl) (by kernel_rfl) (by kernel_rfl) (by kernel_rfl) (fun _ _ _ h => h) (by rfl) (by assumption) ?_
            try simp only [Act.put, List.setIfInBounds_toArray, List.set_cons_zero, List.set_cons_succ]
            refine uPass (i := 20) (some 62) rfl rfl (by kernel_rfl) (by kernel_rfl) (by kernel_rfl) (by kernel_rfl) (fun _ _ _ h => h) (by rfl) (by assumption) ?_
            try simp only [Act.put, List.setIfInBounds_toArray, List.set_cons_zero, List.set_cons_succ]
            refine uPass (i := 21) (some 63) rfl rfl (by kernel_rfl) (by kernel_rfl) (by kernel_rfl) (by kernel_rfl) (fun _ _ _ h => h) (by rfl) (by assumption) ?_
            try simp only [Act.put, List.setIfInBounds_toArray, List.set_cons_zero, List.set_cons_succ]
            refine uPass (i := 22) (some 64) rfl rfl (by kernel_rfl) (by kernel_rfl) (by kernel_rfl) (by kernel_rfl) (fun _ _ _ h => h) (by rfl) (by assumption) ?_
            try simp only [Act.put, List.setIfInBounds_toArray, List.set_cons_zero, List.set_cons_succ]
            refine uPass (i := 23) (some 65) rfl rfl (by kernel_rfl) (by kernel_rfl) (by kernel_rfl) (by kernel_rfl) (fun _ _ _ h => h) (by rfl) (by assumption) ?_
            try simp only [Act.put, List.setIfInBounds_toArray, List.set_cons_zero, List.set_cons_succ]
            refine uPass (i := 24) (some 66) rfl rfl (by kernel_rfl) (by kernel_rfl) (by kernel_rfl) (by kernel_rfl) (fun _ _ _ h => h) (by rfl) (by assumption) ?_
            try simp only [Act.put, List.setIfInBounds_toArray, List.set_cons_zero, List.set_cons_succ]
            refine uPass (i := 25) (some 67) rfl rfl (by kernel_rfl) (by kernel_rfl) (by kernel_rfl) (by kernel_rfl) (fun _ _ _ h => h) (by rfl) (by assumption) ?_
            try simp only [Act.put, List.setIfInBounds_toArray, List.set_cons_zero, List.set_cons_succ]
            refine uPass (i := 26) (some 68) rfl rfl (by kernel_rfl) (by kernel_rfl) (by kernel_rfl) (by kernel_rfl) (fun _ _ _ h => h) (by rfl) (by assumption) ?_
            try simp only [Act.put, List.setIfInBounds_toArray, List.set_cons_zero, List.set_cons_succ]
            refine uPass (i := 27) (some 69) rfl rfl (by kernel_rfl) (by kernel_rfl) (by kernel_rfl) (by kernel_rfl) (fun _ _ _ h => h) (by rfl) (by assumption) ?_
            try simp only [Act.put, List.setIfInBounds_toArray, List.set_cons_zero, List.set_cons_succ]
            refine uPass (i := 28) (some 70) rfl rfl (by kernel_rfl) (by kernel_rfl) (by kernel_rfl) (by kernel_rfl) (fun _ _ _ h => h) (by rfl) (by assumption) ?_
            try simp only [Act.put, List.setIfInBounds_toArray, List.set_cons_zero, List.set_cons_succ]
            refine uPass (i := 29) (some 71) rfl rfl (by kernel_rfl) (by kernel_rfl) (by kernel_rfl) (by kernel_rfl) (fun _ _ _ h => h) (by rfl) (by assumption) ?_
            try simp only [Act.put, List.setIfInBounds_toArray, List.set_cons_zero, List.set_cons_succ]
            refine uPass (i := 30) (some 72) rfl rfl (by kernel_rfl) (by kernel_rfl) (by kernel_rfl) (by kernel_rfl) (fun _ _ _ h => h) (by rfl) (by assumption) ?_
            try simp only [Act.put, List.setIfInBounds_toArray, List.set_cons_zero, List.set_cons_succ]
            refine uPass (i := 31) (some 73) rfl rfl (by kernel_rfl) (by kernel_rfl) (by kernel_rfl) (by kernel_rfl) (fun _ _ _ h => h) (by rfl) (by assumption) ?_
            try simp only [Act.put, List.setIfInBounds_toArray, List.set_cons_zero, List.set_cons_succ]
            refine uPass (i := 32) (some 74) rfl rfl (by kernel_rfl) (by kernel_rfl) (by kernel_rfl) (by kernel_rfl) (fun _ _ _ h => h) (by rfl) (by assumption) ?_
            try simp only [Act.put, List.setIfInBounds_toArray, List.set_cons_zero, List.set_cons_succ]
            refine uTake (i := 33) (some 75) (v := ?_) rfl rfl (by kernel_rfl) (by kernel_rfl) (by kernel_rfl) (by kernel_rfl) (fun _ _ _ h => h) (by rfl) (by assumption) ?_ ?_
            rotate_left
            · (intro wS hSw; (try dsimp only at hSw); go_simp; try with_reducible rfl)
            try simp only [Act.put, List.setIfInBounds_toArray, List.set_cons_zero, List.set_cons_succ]
            refine uDone (by kernel_rfl) ?_ _
            have hfin := Lib.hid E8.out.bel
            go_wp2
            go_ret
            exact ⟨RB HF.out.symm, hfin.out⟩
          · have hvv := Lib.hid hv
            clear hv
            by_cases h0 : k = 0
            · have t2z : decide ((0 : Int) < (k : Int)) = false := decide_eq_false (by omega)
              have t4z : decide (0 < k) = false := decide_eq_false (by omega)
              have H0 := Lib.hid h0
              clear h0
              go_wp2_with fail
              have E6 := Lib.hid E5.out.drew
              clear u0 u1 u2 u3 u4 v0 c4_1 E5
              refine wp_regionU (S := fun w' => w'.cell? ⟨w.heap.size, 1, none⟩ = some (.slice (some ⟨xab, xao, none⟩) l.L.length xj) ∧ w'.cell? ⟨w.heap.size, 2, none⟩ = some (.slice (some ⟨xbb, xbo, none⟩) l.ats.length xk) ∧ w'.cell? ⟨xab, xao + k * 5, none⟩ = some (.int .i64 l.L[k].fr) ∧ w'.cell? ⟨xab, xao + k * 5 + 1, none⟩ = some (.int .i64 l.L[k].to_) ∧ w'.cell? ⟨xab, xao + k * 5 + 2, none⟩ = some (.int .i64 l.L[k].kd) ∧ w'.cell? ⟨xab, xao + k * 5 + 3, none⟩ = some (.int .i64 l.L[k].nm) ∧ w'.cell? ⟨xab, xao + k * 5 + 4, none⟩ = some (.slice ua l.L[k].body.length uk) ∧ w'.cell? ⟨xbb, xbo + k, none⟩ = some (.int .i64 l.ats[k])) [] (by kernel_rfl) (⟨((E6.out.bx 0 rfl).cell 1 rfl), ((E6.out.bx 0 rfl).cell 2 rfl), (E6.out.fc 1 rfl).2, (E6.out.fc 2 rfl).2, (E6.out.fc 3 rfl).2, (E6.out.fc 4 rfl).2, (E6.out.fc 5 rfl).2, (E6.out.fc 0 rfl).2⟩) (fun hHeld => ?_)
              generalize wr.drew = w3 at *
              refine uTake (i := 0) (some 42) (v := ?_) rfl rfl (by kernel_rfl) (by kernel_rfl) (by kernel_rfl) (by kernel_rfl) (fun _ _ _ h => h) (by rfl) (by assumption) ?_ ?_
              rotate_left
              · (intro wS hSw; (try dsimp only at hSw); go_simp; try with_reducible rfl)
              try simp only [Act.put, List.setIfInBounds_toArray, List.set_cons_zero, List.set_cons_succ]
              refine uTake (i := 1) (some 43) (v := ?_) rfl rfl (by kernel_rfl) (by kernel_rfl) (by kernel_rfl) (by kernel_rfl) (fun _ _ _ h => h) (by rfl) (by assumption) ?_ ?_
              rotate_left
              · (intro wS hSw; (try dsimp only at hSw); go_simp; try with_reducible rfl)
              try simp only [Act.put, List.setIfInBounds_toArray, List.set_cons_zero, List.set_cons_succ]
              refine uTake (i := 2) (some 44) (v := ?_) rfl rfl (by kernel_rfl) (by kernel_rfl) (by kernel_rfl) (by kernel_rfl) (fun _ _ _ h => h) (by rfl) (by assumption) ?_ ?_
              rotate_left
              · (intro wS hSw; (try dsimp only at hSw); go_simp; try with_reducible rfl)
              try simp only [Act.put, List.setIfInBounds_toArray, List.set_cons_zero, List.set_cons_succ]
              refine uTake (i := 3) (some 45) (v := ?_) rfl rfl (by kernel_rfl) (by kernel_rfl) (by kernel_rfl) (by kernel_rfl) (fun _ _ _ h => h) (by rfl) (by assumption) ?_ ?_
              rotate_left
              · (intro wS hSw; (try dsimp only at hSw); go_simp; try with_reducible rfl)
              try simp only [Act.put, List.setIfInBounds_toArray, List.set_cons_zero, List.set_cons_succ]
              refine uTake (i := 4) (some 46) (v := ?_) rfl rfl (by kernel_rfl) (by kernel_rfl) (by kernel_rfl) (by kernel_rfl) (fun _ _ _ h => h) (by rfl) (by assumption) ?_ ?_
              rotate_left
              · (intro wS hSw; (try dsimp only at hSw); go_simp; try with_reducible rfl)
              try simp only [Act.put, List.setIfInBounds_toArray, List.set_cons_zero, List.set_cons_succ]
              refine uReady (rs := [5]) (by kernel_rfl) (by simp) ?_
              refine ReadyU.cons rfl (fun KK hKK => ?_) ReadyU.nil
              go_simp
              refine (lrMessage_v l.L[k] hmm.out _ _ _).mono ?_
              rintro e w4 ⟨rfl, hb⟩
              have E7 := Lib.hid (E6.out.below hb)
              clear E6 hb
              (try dsimp only)
              clear hHeld
              refine hKK.out _ _ (⟨((E7.out.bx 0 rfl).cell 1 rfl), ((E7.out.bx 0 rfl).cell 2 rfl), (E7.out.fc 1 rfl).2, (E7.out.fc 2 rfl).2, (E7.out.fc 3 rfl).2, (E7.out.fc 4 rfl).2, (E7.out.fc 5 rfl).2, (E7.out.fc 0 rfl).2⟩) (fun hHeld => ?_)
              clear hKK KK
              try simp only [Act.put, List.setIfInBounds_toArray, List.set_cons_zero, List.set_cons_succ]
              refine uTake (i := 6) (some 48) (v := ?_) rfl rfl (by kernel_rfl) (by kernel_rfl) (by kernel_rfl) (by kernel_rfl) (fun _ _ _ h => h) (by rfl) (by assumption) ?_ ?_
              rotate_left
              · (intro wS hSw; (try dsimp only at hSw); go_simp; try with_reducible rfl)
              try simp only [Act.put, List.setIfInBounds_toArray, List.set_cons_zero, List.set_cons_succ]
              refine uTake (i := 7) (some 49) (v := ?_) rfl rfl (by kernel_rfl) (by kernel_rfl) (by kernel_rfl) (by kernel_rfl) (fun _ _ _ h => h) (by rfl) (by assumption) ?_ ?_
              rotate_left
              · (intro wS hSw; (try dsimp only at hSw); go_simp; try with_reducible rfl)
              try simp only [Act.put, List.setIfInBounds_toArray, List.set_cons_zero, List.set_cons_succ]
              refine uTake (i := 8) (some 50) (v := ?_) rfl rfl (by kernel_rfl) (by kernel_rfl) (by kernel_rfl) (by kernel_rfl) (fun _ _ _ h => h) (by rfl) (by assumption) ?_ ?_
              rotate_left
              · (intro wS hSw; (try dsimp only at hSw); go_simp; try with_reducible rfl)
              try simp only [Act.put, List.setIfInBounds_toArray, List.set_cons_zero, List.set_cons_succ]
              refine uTake (i := 9) (some 51) (v := ?_) rfl rfl (by kernel_rfl) (by kernel_rfl) (by kernel_rfl) (by kernel_rfl) (fun _ _ _ h => h) (by rfl) (by assumption) ?_ ?_
              rotate_left
              · (intro wS hSw; (try dsimp only at hSw); go_simp; try with_reducible rfl)
              try simp only [Act.put, List.setIfInBounds_toArray, List.set_cons_zero, List.set_cons_succ]
              refine uTake (i := 10) (some 52) (v := ?_) rfl rfl (by kernel_rfl) (by kernel_rfl) (by kernel_rfl) (by kernel_rfl) (fun _ _ _ h => h) (by rfl) (by assumption) ?_ ?_
              rotate_left
              · (intro wS hSw; (try dsimp only at hSw); go_simp; try with_reducible rfl)
              try simp only [Act.put, List.setIfInBounds_toArray, List.set_cons_zero, List.set_cons_succ]
              refine uTake (i := 11) (some 53) (v := ?_) rfl rfl (by kernel_rfl) (by kernel_rfl) (by kernel_rfl) (by kernel_rfl) (fun _ _ _ h => h) (by rfl) (by assumption) ?_ ?_
              rotate_left
              · (intro wS hSw; (try dsimp only at hSw); go_simp; try with_reducible rfl)
              try simp only [Act.put, List.setIfInBounds_toArray, List.set_cons_zero, List.set_cons_succ]
              refine uTake (i := 12) (some 54) (v := ?_) rfl rfl (by kernel_rfl) (by kernel_rfl) (by kernel_rfl) (by kernel_rfl) (fun _ _ _ h => h) (by rfl) (by assumption) ?_ ?_
              rotate_left
              · (intro wS hSw; (try dsimp only at hSw); go_simp; try with_reducible rfl)
              try simp only [Act.put, List.setIfInBounds_toArray, List.set_cons_zero, List.set_cons_succ]
              refine uReady (rs := [13]) (by kernel_rfl) (by simp) ?_
              refine ReadyU.cons rfl (fun KK hKK => ?_) ReadyU.nil
              go_simp
              refine (rIn_v hvv.out _).mono ?_
              rintro e w5 ⟨rfl, hb⟩
              have E8 := Lib.hid (E7.out.below hb)
              clear E7 hb
              (try dsimp only)
              clear hHeld
              refine hKK.out _ _ (⟨((E8.out.bx 0 rfl).cell 1 rfl), ((E8.out.bx 0 rfl).cell 2 rfl), (E8.out.fc 1 rfl).2, (E8.out.fc 2 rfl).2, (E8.out.fc 3 rfl).2, (E8.out.fc 4 rfl).2, (E8.out.fc 5 rfl).2, (E8.out.fc 0 rfl).2⟩) (fun hHeld => ?_)
              clear hKK KK
              try simp only [Act.put, List.setIfInBounds_toArray, List.set_cons_zero, List.set_cons_succ]
              refine uTake (i := 14) (some 56) (v := ?_) rfl rfl (by kernel_rfl) (by kernel_rfl) (by kernel_rfl) (by kernel_rfl) (fun _ _ _ h => h) (by rfl) (by assumption) ?_ ?_
              rotate_left
              · (intro wS hSw; (try dsimp only at hSw); go_simp; try with_reducible rfl)
              try simp only [Act.put, List.setIfInBounds_toArray, List.set_cons_zero, List.set_cons_succ]
              refine uTake (i := 15) (some 57) (v := ?_) rfl rfl (by kernel_rfl) (by kernel_rfl) (by kernel_rfl) (by kernel_rfl) (fun _ _ _ h => h) (by rfl) (by assumption) ?_ ?_
              rotate_left
              · (intro wS hSw; (try dsimp only at hSw); go_simp; try with_reducible rfl)
              try simp only [Act.put, List.setIfInBounds_toArray, List.set_cons_zero, List.set_cons_succ]
              refine uTake (i := 16) (some 58) (v := ?_) rfl rfl (by kernel_rfl) (by kernel_rfl) (by kernel_rfl) (by kernel_rfl) (fun _ _ _ h => h) (by rfl) (by assumption) ?_ ?_
              rotate_left
              · (intro wS hSw; (try dsimp only at hSw); go_simp; try with_reducible rfl)
              try simp only [Act.put, List.setIfInBounds_toArray, List.set_cons_zero, List.set_cons_succ]
              refine uTake (i := 17) (some 59) (v := ?_) rfl rfl (by kernel_rfl) (by kernel_rfl) (by kernel_rfl) (by kernel_rfl) (fun _ _ _ h => h) (by rfl) (by assumption) ?_ ?_
              rotate_left
              · (intro wS hSw; (try dsimp only at hSw); go_simp; try with_reducible rfl)
              try simp only [Act.put, List.setIfInBounds_toArray, List.set_cons_zero, List.set_cons_succ]
              refine uTake (i := 18) (some 60) (v := .bool false) rfl rfl (by kernel_rfl) (by kernel_rfl) (by kernel_rfl) (by kernel_rfl) (fun _ _ _ h => h) (by rfl) (by assumption) ?_ ?_
              · (intro wS hSw; (try dsimp only at hSw); go_simp; try simp [*])
              try simp only [Act.put, List.setIfInBounds_toArray, List.set_cons_zero, List.set_cons_succ]
              refine uTake (i := 19) (some 61) (v := ?_) rfl rfl (by kernel_rfl) (by kernel_rfl) (by kernel_rfl) (by kernel_rfl) (fun _ _ _ h => h) (by rfl) (by assumption) ?_ ?_
              rotate_left
              · (intro wS hSw; (try dsimp only at hSw); go_simp; try with_reducible rfl)
              try simp only [Act.put, List.setIfInBounds_toArray, List.set_cons_zero, List.set_cons_succ]
              refine uPass (i := 20) (some 62) rfl rfl (by kernel_rfl) (by kernel_rfl) (by kernel_rfl) (by kernel_rfl) (fun _ _ _ h => h) (by rfl) (by assumption) ?_
              try simp only [Act.put, List.setIfInBounds_toArray, List.set_cons_zero, List.set_cons_succ]
              refine uPass (i := 21) (some 63) rfl rfl (by kernel_rfl) (by kernel_rfl) (by kernel_rfl) (by kernel_rfl) (fun _ _ _ h => h) (by rfl) (by assumption) ?_
              try simp only [Act.put, List.setIfInBounds_toArray, List.set_cons_zero, List.set_cons_succ]
              refine uPass (i := 22) (some 64) rfl rfl (by kernel_rfl) (by kernel_rfl) (by kernel_rfl) (by kernel_rfl) (fun _ _ _ h => h) (by rfl) (by assumption) ?_
              try simp only [Act.put, List.setIfInBounds_toArray, List.set_cons_zero, List.set_cons_succ]
              refine uPass (i := 23) (some 65) rfl rfl (by kernel_rfl) (by kernel_rfl) (by kernel_rfl) (by kernel_rfl) (fun _ _ _ h => h) (by rfl) (by assumption) ?_
              try simp only [Act.put, List.setIfInBounds_toArray, List.set_cons_zero, List.set_cons_succ]
              refine uPass (i := 24) (some 66) rfl rfl (by kernel_rfl) (by kernel_rfl) (by kernel_rfl) (by kernel_rfl) (fun _ _ _ h => h) (by rfl) (by assumption) ?_
              try simp only [Act.put, List.setIfInBounds_toArray, List.set_cons_zero, List.set_cons_succ]
              refine uPass (i := 25) (some 67) rfl rfl (by kernel_rfl) (by kernel_rfl) (by kernel_rfl) (by kernel_rfl) (fun _ _ _ h => h) (by rfl) (by assumption) ?_
              try simp only [Act.put, List.setIfInBounds_toArray, List.set_cons_zero, List.set_cons_succ]
              refine uPass (i := 26) (some 68) rfl rfl (by kernel_rfl) (by kernel_rfl) (by kernel_rfl) (by kernel_rfl) (fun _ _ _ h => h) (by rfl) (by assumption) ?_
              try simp only [Act.put, List.setIfInBounds_toArray, List.set_cons_zero, List.set_cons_succ]
              refine uPass (i := 27) (some 69) rfl rfl (by kernel_rfl) (by kernel_rfl) (by kernel_rfl) (by kernel_rfl) (fun _ _ _ h => h) (by rfl) (by assumption) ?_
              try simp only [Act.put, List.setIfInBounds_toArray, List.set_cons_zero, List.set_cons_succ]
              refine uPass (i := 28) (some 70) rfl rfl (by kernel_rfl) (by kernel_rfl) (by kernel_rfl) (by kernel_rfl) (fun _ _ _ h => h) (by rfl) (by assumption) ?_
              try simp only [Act.put, List.setIfInBounds_toArray, List.set_cons_zero, List.set_cons_succ]
              refine uPass (i := 29) (some 71) rfl rfl (by kernel_rfl) (by kernel_rfl) (by kernel_rfl) (by kernel_rfl) (fun _ _ _ h => h) (by rfl) (by assumption) ?_
              try simp only [Act.put, List.setIfInBounds_toArray, List.set_cons_zero, List.set_cons_succ]
              refine uPass (i := 30) (some 72) rfl rfl (by kernel_rfl) (by kernel_rfl) (by kernel_rfl) (by kernel_rfl) (fun _ _ _ h => h) (by rfl) (by assumption) ?_
              try simp only [Act.put, List.setIfInBounds_toArray, List.set_cons_zero, List.set_cons_succ]
              refine uPass (i := 31) (some 73) rfl rfl (by kernel_rfl) (by kernel_rfl) (by kernel_rfl) (by kernel_rfl) (fun _ _ _ h => h) (by rfl) (by assumption) ?_
              try simp only [Act.put, List.setIfInBounds_toArray, List.set_cons_zero, List.set_cons_succ]
              refine uTake (i := 32) (some 74) (v := ?_) rfl rfl (by kernel_rfl) (by kernel_rfl) (by kernel_rfl) (by kernel_rfl) (fun _ _ _ h => h) (by rfl) (by assumption) ?_ ?_
              rotate_left
              · (intro wS hSw; (try dsimp only at hSw); go_simp; try with_reducible rfl)
              try simp only [Act.put, List.setIfInBounds_toArray, List.set_cons_zero, List.set_cons_succ]
              refine uTake (i := 33) (some 75) (v := ?_) rfl rfl (by kernel_rfl) (by kernel_rfl) (by kernel_rfl) (by kernel_rfl) (fun _ _ _ h => h) (by rfl) (by assumption) ?_ ?_
              rotate_left
              · (intro wS hSw; (try dsimp only at hSw); go_simp; try with_reducible rfl)
              try simp only [Act.put, List.setIfInBounds_toArray, List.set_cons_zero, List.set_cons_succ]
              refine uDone (by kernel_rfl) ?_ _
              have EZ := Lib.hid (((((((E8.out.forget).forget).forget).forget).forget).forget).forget)
              go_wp2
              go_roundg (l.L.length - (k + 1))
              case rel => exact ⟨k + 1, rfl, EZ, Lib.hid ⟨⟨by omega, rfl⟩, fun i h h' hi => by by_cases e : i = k; (· subst e; exact ⟨⟨hmm.out, hvv.out⟩, fun j hj => by (have := H0.out; omega)⟩); exact HS.out i h h' (by omega)⟩⟩
              case measure => exact by omega
            · obtain ⟨j, HJ⟩ : ∃ j, Hid (k = j + 1) := ⟨k - 1, Lib.hid (by omega)⟩
              have hj : j < l.ats.length := by have := HJ.out; omega
              have t2z : decide ((0 : Int) < (k : Int)) = true := decide_eq_true (by omega)
              have t4z : decide (0 < k) = true := decide_eq_true (by omega)
              have t5z : 0 < k := by omega
              clear h0
              have ej : ((k : Int) - 1) = (j : Int) := by have := HJ.out; omega
              have ew : IntKind.i64.wrap (j : Int) = (j : Int) := by rw [IntKind.wrap_i64]; omega
              have ew2 : IntKind.i64.wrap ((k : Int) - 1) = (j : Int) := by rw [IntKind.wrap_i64]; have := HJ.out; omega
              have E6 := Lib.hid (E5.out.elI 8 rfl rfl (j) hj)
              clear E5
              have q0 := (E6.out.fc 0 rfl).2
              by_cases hb : l.ats[k] < l.ats[j]
              · have hd : decide (l.ats[k] < l.ats[j]) = true := decide_eq_true hb
                have HF : Hid (t = false) := Lib.hid (by cases t with | false => rfl | true => exact absurd (ht.out.2 rfl) (by intro hh; have h9 := hh.2.1 j (by have := HJ.out; omega); have e9 : l.ats[k] = l.ats[j + 1]'(by have := HJ.out; omega) := (by simp only [HJ.out]); rw [e9] at hb; omega))
                clear hb
                go_wp2_with fail
                have E7 := Lib.hid E6.out.drew
                clear u0 u1 u2 u3 u4 v0 c4_1 q0 E6
                refine wp_regionU (S := fun w' => w'.cell? ⟨w.heap.size, 1, none⟩ = some (.slice (some ⟨xab, xao, none⟩) l.L.length xj) ∧ w'.cell? ⟨w.heap.size, 2, none⟩ = some (.slice (some ⟨xbb, xbo, none⟩) l.ats.length xk) ∧ w'.cell? ⟨xab, xao + k * 5, none⟩ = some (.int .i64 l.L[k].fr) ∧ w'.cell? ⟨xab, xao + k * 5 + 1, none⟩ = some (.int .i64 l.L[k].to_) ∧ w'.cell? ⟨xab, xao + k * 5 + 2, none⟩ = some (.int .i64 l.L[k].kd) ∧ w'.cell? ⟨xab, xao + k * 5 + 3, none⟩ = some (.int .i64 l.L[k].nm) ∧ w'.cell? ⟨xab, xao + k * 5 + 4, none⟩ = some (.slice ua l.L[k].body.length uk) ∧ w'.cell? ⟨xbb, xbo + k, none⟩ = some (.int .i64 l.ats[k]) ∧ w'.cell? ⟨xbb, xbo + j, none⟩ = some (.int .i64 l.ats[j])) [] (by kernel_rfl) (⟨((E7.out.bx 0 rfl).cell 1 rfl), ((E7.out.bx 0 rfl).cell 2 rfl), (E7.out.fc 2 rfl).2, (E7.out.fc 3 rfl).2, (E7.out.fc 4 rfl).2, (E7.out.fc 5 rfl).2, (E7.out.fc 6 rfl).2, (E7.out.fc 1 rfl).2, (E7.out.fc 0 rfl).2⟩) (fun hHeld => ?_)
                generalize wr.drew = w3 at *
                refine uTake (i := 0) (some 42) (v := ?_) rfl rfl (by kernel_rfl) (by kernel_rfl) (by kernel_rfl) (by kernel_rfl) (fun _ _ _ h => h) (by rfl) (by assumption) ?_ ?_
                rotate_left
                · (intro wS hSw; (try dsimp only at hSw); go_simp; try with_reducible rfl)
                try simp only [Act.put, List.setIfInBounds_toArray, List.set_cons_zero, List.set_cons_succ]
                refine uTake (i := 1) (some 43) (v := ?_) rfl rfl (by kernel_rfl) (by kernel_rfl) (by kernel_rfl) (by kernel_rfl) (fun _ _ _ h => h) (by rfl) (by assumption) ?_ ?_
                rotate_left
                · (intro wS hSw; (try dsimp only at hSw); go_simp; try with_reducible rfl)
                try simp only [Act.put, List.setIfInBounds_toArray, List.set_cons_zero, List.set_cons_succ]
                refine uTake (i := 2) (some 44) (v := ?_) rfl rfl (by kernel_rfl) (by kernel_rfl) (by kernel_rfl) (by kernel_rfl) (fun _ _ _ h => h) (by rfl) (by assumption) ?_ ?_
                rotate_left
                · (intro wS hSw; (try dsimp only at hSw); go_simp; try with_reducible rfl)
                try simp only [Act.put, List.setIfInBounds_toArray, List.set_cons_zero, List.set_cons_succ]
                refine uTake (i := 3) (some 45) (v := ?_) rfl rfl (by kernel_rfl) (by kernel_rfl) (by kernel_rfl) (by kernel_rfl) (fun _ _ _ h => h) (by rfl) (by assumption) ?_ ?_
                rotate_left
                · (intro wS hSw; (try dsimp only at hSw); go_simp; try with_reducible rfl)
                try simp only [Act.put, List.setIfInBounds_toArray, List.set_cons_zero, List.set_cons_succ]
                refine uTake (i := 4) (some 46) (v := ?_) rfl rfl (by kernel_rfl) (by kernel_rfl) (by kernel_rfl) (by kernel_rfl) (fun _ _ _ h => h) (by rfl) (by assumption) ?_ ?_
                rotate_left
                · (intro wS hSw; (try dsimp only at hSw); go_simp; try with_reducible rfl)
                try simp only [Act.put, List.setIfInBounds_toArray, List.set_cons_zero, List.set_cons_succ]
                refine uReady (rs := [5]) (by kernel_rfl) (by simp) ?_
                refine ReadyU.cons rfl (fun KK hKK => ?_) ReadyU.nil
                go_simp
                refine (lrMessage_v l.L[k] hmm.out _ _ _).mono ?_
                rintro e w4 ⟨rfl, hb⟩
                have E8 := Lib.hid (E7.out.below hb)
                clear E7 hb
                (try dsimp only)
                clear hHeld
                refine hKK.out _ _ (⟨((E8.out.bx 0 rfl).cell 1 rfl), ((E8.out.bx 0 rfl).cell 2 rfl), (E8.out.fc 2 rfl).2, (E8.out.fc 3 rfl).2, (E8.out.fc 4 rfl).2, (E8.out.fc 5 rfl).2, (E8.out.fc 6 rfl).2, (E8.out.fc 1 rfl).2, (E8.out.fc 0 rfl).2⟩) (fun hHeld => ?_)
                clear hKK KK
                try simp only [Act.put, List.setIfInBounds_toArray, List.set_cons_zero, List.set_cons_succ]
                refine uTake (i := 6) (some 48) (v := ?_) rfl rfl (by kernel_rfl) (by kernel_rfl) (by kernel_rfl) (by kernel_rfl) (fun _ _ _ h => h) (by rfl) (by assumption) ?_ ?_
                rotate_left
                · (intro wS hSw; (try dsimp only at hSw); go_simp; try with_reducible rfl)
                try simp only [Act.put, List.setIfInBounds_toArray, List.set_cons_zero, List.set_cons_succ]
                refine uTake (i := 7) (some 49) (v := ?_) rfl rfl (by kernel_rfl) (by kernel_rfl) (by kernel_rfl) (by kernel_rfl) (fun _ _ _ h => h) (by rfl) (by assumption) ?_ ?_
                rotate_left
                · (intro wS hSw; (try dsimp only at hSw); go_simp; try with_reducible rfl)
                try simp only [Act.put, List.setIfInBounds_toArray, List.set_cons_zero, List.set_cons_succ]
                refine uTake (i := 8) (some 50) (v := ?_) rfl rfl (by kernel_rfl) (by kernel_rfl) (by kernel_rfl) (by kernel_rfl) (fun _ _ _ h => h) (by rfl) (by assumption) ?_ ?_
                rotate_left
                · (intro wS hSw; (try dsimp only at hSw); go_simp; try with_reducible rfl)
                try simp only [Act.put, List.setIfInBounds_toArray, List.set_cons_zero, List.set_cons_succ]
                refine uTake (i := 9) (some 51) (v := ?_) rfl rfl (by kernel_rfl) (by kernel_rfl) (by kernel_rfl) (by kernel_rfl) (fun _ _ _ h => h) (by rfl) (by assumption) ?_ ?_
                rotate_left
                · (intro wS hSw; (try dsimp only at hSw); go_simp; try with_reducible rfl)
                try simp only [Act.put, List.setIfInBounds_toArray, List.set_cons_zero, List.set_cons_succ]
                refine uTake (i := 10) (some 52) (v := ?_) rfl rfl (by kernel_rfl) (by kernel_rfl) (by kernel_rfl) (by kernel_rfl) (fun _ _ _ h => h) (by rfl) (by assumption) ?_ ?_
                rotate_left
                · (intro wS hSw; (try dsimp only at hSw); go_simp; try with_reducible rfl)
                try simp only [Act.put, List.setIfInBounds_toArray, List.set_cons_zero, List.set_cons_succ]
                refine uTake (i := 11) (some 53) (v := ?_) rfl rfl (by kernel_rfl) (by kernel_rfl) (by kernel_rfl) (by kernel_rfl) (fun _ _ _ h => h) (by rfl) (by assumption) ?_ ?_
                rotate_left
                · (intro wS hSw; (try dsimp only at hSw); go_simp; try with_reducible rfl)
                try simp only [Act.put, List.setIfInBounds_toArray, List.set_cons_zero, List.set_cons_succ]
                refine uTake (i := 12) (some 54) (v := ?_) rfl rfl (by kernel_rfl) (by kernel_rfl) (by kernel_rfl) (by kernel_rfl) (fun _ _ _ h => h) (by rfl) (by assumption) ?_ ?_
                rotate_left
                · (intro wS hSw; (try dsimp only at hSw); go_simp; try with_reducible rfl)
                try simp only [Act.put, List.setIfInBounds_toArray, List.set_cons_zero, List.set_cons_succ]
                refine uReady (rs := [13]) (by kernel_rfl) (by simp) ?_
                refine ReadyU.cons rfl (fun KK hKK => ?_) ReadyU.nil
                go_simp
                refine (rIn_v hvv.out _).mono ?_
                rintro e w5 ⟨rfl, hb⟩
                have E9 := Lib.hid (E8.out.below hb)
                clear E8 hb
                (try dsimp only)
                clear hHeld
                refine hKK.out _ _ (⟨((E9.out.bx 0 rfl).cell 1 rfl), ((E9.out.bx 0 rfl).cell 2 rfl), (E9.out.fc 2 rfl).2, (E9.out.fc 3 rfl).2, (E9.out.fc 4 rfl).2, (E9.out.fc 5 rfl).2, (E9.out.fc 6 rfl).2, (E9.out.fc 1 rfl).2, (E9.out.fc 0 rfl).2⟩) (fun hHeld => ?_)
                clear hKK KK
                try simp only [Act.put, List.setIfInBounds_toArray, List.set_cons_zero, List.set_cons_succ]
                refine uTake (i := 14) (some 56) (v := ?_) rfl rfl (by kernel_rfl) (by kernel_rfl) (by kernel_rfl) (by kernel_rfl) (fun _ _ _ h => h) (by rfl) (by assumption) ?_ ?_
                rotate_left
                · (intro wS hSw; (try dsimp only at hSw); go_simp; try with_reducible rfl)
                try simp only [Act.put, List.setIfInBounds_toArray, List.set_cons_zero, List.set_cons_succ]
                refine uTake (i := 15) (some 57) (v := ?_) rfl rfl (by kernel_rfl) (by kernel_rfl) (by kernel_rfl) (by kernel_rfl) (fun _ _ _ h => h) (by rfl) (by assumption) ?_ ?_
                rotate_left
                · (intro wS hSw; (try dsimp only at hSw); go_simp; try with_reducible rfl)
                try simp only [Act.put, List.setIfInBounds_toArray, List.set_cons_zero, List.set_cons_succ]
                refine uTake (i := 16) (some 58) (v := ?_) rfl rfl (by kernel_rfl) (by kernel_rfl) (by kernel_rfl) (by kernel_rfl) (fun _ _ _ h => h) (by rfl) (by assumption) ?_ ?_
                rotate_left
                · (intro wS hSw; (try dsimp only at hSw); go_simp; try with_reducible rfl)
                try simp only [Act.put, List.setIfInBounds_toArray, List.set_cons_zero, List.set_cons_succ]
                refine uTake (i := 17) (some 59) (v := ?_) rfl rfl (by kernel_rfl) (by kernel_rfl) (by kernel_rfl) (by kernel_rfl) (fun _ _ _ h => h) (by rfl) (by assumption) ?_ ?_
                rotate_left
                · (intro wS hSw; (try dsimp only at hSw); go_simp; try with_reducible rfl)
                try simp only [Act.put, List.setIfInBounds_toArray, List.set_cons_zero, List.set_cons_succ]
                refine uTake (i := 18) (some 60) (v := .bool true) rfl rfl (by kernel_rfl) (by kernel_rfl) (by kernel_rfl) (by kernel_rfl) (fun _ _ _ h => h) (by rfl) (by assumption) ?_ ?_
                · (intro wS hSw; (try dsimp only at hSw); go_simp; try simp [*])
                try simp only [Act.put, List.setIfInBounds_toArray, List.set_cons_zero, List.set_cons_succ]
                refine uTake (i := 19) (some 61) (v := ?_) rfl rfl (by kernel_rfl) (by kernel_rfl) (by kernel_rfl) (by kernel_rfl) (fun _ _ _ h => h) (by rfl) (by assumption) ?_ ?_
                rotate_left
                · (intro wS hSw; (try dsimp only at hSw); go_simp; try with_reducible rfl)
                try simp only [Act.put, List.setIfInBounds_toArray, List.set_cons_zero, List.set_cons_succ]
                refine uTake (i := 20) (some 62) (v := ?_) rfl rfl (by kernel_rfl) (by kernel_rfl) (by kernel_rfl) (by kernel_rfl) (fun _ _ _ h => h) (by rfl) (by assumption) ?_ ?_
                rotate_left
                · (intro wS hSw; (try dsimp only at hSw); go_simp; try with_reducible rfl)
                try simp only [Act.put, List.setIfInBounds_toArray, List.set_cons_zero, List.set_cons_succ]
                refine uTake (i := 21) (some 63) (v := ?_) rfl rfl (by kernel_rfl) (by kernel_rfl) (by kernel_rfl) (by kernel_rfl) (fun _ _ _ h => h) (by rfl) (by assumption) ?_ ?_
                rotate_left
                · (intro wS hSw; (try dsimp only at hSw); go_simp; try with_reducible rfl)
                try simp only [Act.put, List.setIfInBounds_toArray, List.set_cons_zero, List.set_cons_succ]
                refine uTake (i := 22) (some 64) (v := ?_) rfl rfl (by kernel_rfl) (by kernel_rfl) (by kernel_rfl) (by kernel_rfl) (fun _ _ _ h => h) (by rfl) (by assumption) ?_ ?_
                rotate_left
                · (intro wS hSw; (try dsimp only at hSw); go_simp; try with_reducible rfl)
                try simp only [Act.put, List.setIfInBounds_toArray, List.set_cons_zero, List.set_cons_succ]
                refine uTake (i := 23) (some 65) (v := ?_) rfl rfl (by kernel_rfl) (by kernel_rfl) (by kernel_rfl) (by kernel_rfl) (fun _ _ _ h => h) (by rfl) (by assumption) ?_ ?_
                rotate_left
                · (intro wS hSw; (try dsimp only at hSw); go_simp; try with_reducible rfl)
                try simp only [Act.put, List.setIfInBounds_toArray, List.set_cons_zero, List.set_cons_succ]
                refine uTake (i := 24) (some 66) (v := ?_) rfl rfl (by kernel_rfl) (by kernel_rfl) (by kernel_rfl) (by kernel_rfl) (fun _ _ _ h => h) (by rfl) (by assumption) ?_ ?_
                rotate_left
                · (intro wS hSw; (try dsimp only at hSw); go_simp; try with_reducible rfl)
                try simp only [Act.put, List.setIfInBounds_toArray, List.set_cons_zero, List.set_cons_succ]
                refine uTake (i := 25) (some 67) (v := ?_) rfl rfl (by kernel_rfl) (by kernel_rfl) (by kernel_rfl) (by kernel_rfl) (fun _ _ _ h => h) (by rfl) (by assumption) ?_ ?_
                rotate_left
                · (intro wS hSw; (try dsimp only at hSw); go_simp; try with_reducible rfl)
                try simp only [Act.put, List.setIfInBounds_toArray, List.set_cons_zero, List.set_cons_succ]
                refine uTake (i := 26) (some 68) (v := ?_) rfl rfl (by kernel_rfl) (by kernel_rfl) (by kernel_rfl) (by kernel_rfl) (fun _ _ _ h => h) (by rfl) (by assumption) ?_ ?_
                rotate_left
                · (intro wS hSw; (try dsimp only at hSw); go_simp; try with_reducible rfl)
                try simp only [Act.put, List.setIfInBounds_toArray, List.set_cons_zero, List.set_cons_succ]
                refine uTake (i := 27) (some 69) (v := ?_) rfl rfl (by kernel_rfl) (by kernel_rfl) (by kernel_rfl) (by kernel_rfl) (fun _ _ _ h => h) (by rfl) (by assumption) ?_ ?_
                rotate_left
                · (intro wS hSw; (try dsimp only at hSw); go_simp; try with_reducible rfl)
                try simp only [Act.put, List.setIfInBounds_toArray, List.set_cons_zero, List.set_cons_succ]
                refine uTake (i := 28) (some 70) (v := ?_) rfl rfl (by kernel_rfl) (by kernel_rfl) (by kernel_rfl) (by kernel_rfl) (fun _ _ _ h => h) (by rfl) (by assumption) ?_ ?_
                rotate_left
                · (intro wS hSw; (try dsimp only at hSw); go_simp; try with_reducible rfl)
                try simp only [Act.put, List.setIfInBounds_toArray, List.set_cons_zero, List.set_cons_succ]
                refine uTake (i := 29) (some 71) (v := ?_) rfl rfl (by kernel_rfl) (by kernel_rfl) (by kernel_rfl) (by kernel_rfl) (fun _ _ _ h => h) (by rfl) (by assumption) ?_ ?_
                rotate_left
                · (intro wS hSw; (try dsimp only at hSw); go_simp; try with_reducible rfl)
                try simp only [Act.put, List.setIfInBounds_toArray, List.set_cons_zero, List.set_cons_succ]
                refine uTake (i := 30) (some 72) (v := ?_) rfl rfl (by kernel_rfl) (by kernel_rfl) (by kernel_rfl) (by kernel_rfl) (fun _ _ _ h => h) (by rfl) (by assumption) ?_ ?_
                rotate_left
                · (intro wS hSw; (try dsimp only at hSw); go_simp; try with_reducible rfl)
                try simp only [Act.put, List.setIfInBounds_toArray, List.set_cons_zero, List.set_cons_succ]
                refine uTake (i := 31) (some 73) (v := .bool true) rfl rfl (by kernel_rfl) (by kernel_rfl) (by kernel_rfl) (by kernel_rfl) (fun _ _ _ h => h) (by rfl) (by assumption) ?_ ?_
                · (intro wS hSw; (try dsimp only at hSw); go_simp; try simp [*])
                try simp only [Act.put, List.setIfInBounds_toArray, List.set_cons_zero, List.set_cons_succ]
                refine uTake (i := 32) (some 74) (v := ?_) rfl rfl (by kernel_rfl) (by kernel_rfl) (by kernel_rfl) (by kernel_rfl) (fun _ _ _ h => h) (by rfl) (by assumption) ?_ ?_
                rotate_left
                · (intro wS hSw; (try dsimp only at hSw); go_simp; try with_reducible rfl)
                try simp only [Act.put, List.setIfInBounds_toArray, List.set_cons_zero, List.set_cons_succ]
                refine uTake (i := 33) (some 75) (v := ?_) rfl rfl (by kernel_rfl) (by kernel_rfl) (by kernel_rfl) (by kernel_rfl) (fun _ _ _ h => h) (by rfl) (by assumption) ?_ ?_
                rotate_left
                · (intro wS hSw; (try dsimp only at hSw); go_simp; try with_reducible rfl)
                try simp only [Act.put, List.setIfInBounds_toArray, List.set_cons_zero, List.set_cons_succ]
                refine uDone (by kernel_rfl) ?_ _
                have hfin := Lib.hid E9.out.bel
                go_wp2
                go_ret
                exact ⟨RB HF.out.symm, hfin.out⟩
              · have hd : decide (l.ats[k] < l.ats[j]) = false := decide_eq_false hb
                have HB := Lib.hid (Int.not_lt.1 hb)
                clear hb
                go_wp2_with fail
                have E7 := Lib.hid E6.out.drew
                clear u0 u1 u2 u3 u4 v0 c4_1 q0 E6
                refine wp_regionU (S := fun w' => w'.cell? ⟨w.heap.size, 1, none⟩ = some (.slice (some ⟨xab, xao, none⟩) l.L.length xj) ∧ w'.cell? ⟨w.heap.size, 2, none⟩ = some (.slice (some ⟨xbb, xbo, none⟩) l.ats.length xk) ∧ w'.cell? ⟨xab, xao + k * 5, none⟩ = some (.int .i64 l.L[k].fr) ∧ w'.cell? ⟨xab, xao + k * 5 + 1, none⟩ = some (.int .i64 l.L[k].to_) ∧ w'.cell? ⟨xab, xao + k * 5 + 2, none⟩ = some (.int .i64 l.L[k].kd) ∧ w'.cell? ⟨xab, xao + k * 5 + 3, none⟩ = some (.int .i64 l.L[k].nm) ∧ w'.cell? ⟨xab, xao + k * 5 + 4, none⟩ = some (.slice ua l.L[k].body.length uk) ∧ w'.cell? ⟨xbb, xbo + k, none⟩ = some (.int .i64 l.ats[k]) ∧ w'.cell? ⟨xbb, xbo + j, none⟩ = some (.int .i64 l.ats[j])) [] (by kernel_rfl) (⟨((E7.out.bx 0 rfl).cell 1 rfl), ((E7.out.bx 0 rfl).cell 2 rfl), (E7.out.fc 2 rfl).2, (E7.out.fc 3 rfl).2, (E7.out.fc 4 rfl).2, (E7.out.fc 5 rfl).2, (E7.out.fc 6 rfl).2, (E7.out.fc 1 rfl).2, (E7.out.fc 0 rfl).2⟩) (fun hHeld => ?_)
                generalize wr.drew = w3 at *
                refine uTake (i := 0) (some 42) (v := ?_) rfl rfl (by kernel_rfl) (by kernel_rfl) (by kernel_rfl) (by kernel_rfl) (fun _ _ _ h => h) (by rfl) (by assumption) ?_ ?_
                rotate_left
                · (intro wS hSw; (try dsimp only at hSw); go_simp; try with_reducible rfl)
                try simp only [Act.put, List.setIfInBounds_toArray, List.set_cons_zero, List.set_cons_succ]
                refine uTake (i := 1) (some 43) (v := ?_) rfl rfl (by kernel_rfl) (by kernel_rfl) (by kernel_rfl) (by kernel_rfl) (fun _ _ _ h => h) (by rfl) (by assumption) ?_ ?_
                rotate_left
                · (intro wS hSw; (try dsimp only at hSw); go_simp; try with_reducible rfl)
                try simp only [Act.put, List.setIfInBounds_toArray, List.set_cons_zero, List.set_cons_succ]
                refine uTake (i := 2) (some 44) (v := ?_) rfl rfl (by kernel_rfl) (by kernel_rfl) (by kernel_rfl) (by kernel_rfl) (fun _ _ _ h => h) (by rfl) (by assumption) ?_ ?_
                rotate_left
                · (intro wS hSw; (try dsimp only at hSw); go_simp; try with_reducible rfl)
                try simp only [Act.put, List.setIfInBounds_toArray, List.set_cons_zero, List.set_cons_succ]
                refine uTake (i := 3) (some 45) (v := ?_) rfl rfl (by kernel_rfl) (by kernel_rfl) (by kernel_rfl) (by kernel_rfl) (fun _ _ _ h => h) (by rfl) (by assumption) ?_ ?_
                rotate_left
                · (intro wS hSw; (try dsimp only at hSw); go_simp; try with_reducible rfl)
                try simp only [Act.put, List.setIfInBounds_toArray, List.set_cons_zero, List.set_cons_succ]
                refine uTake (i := 4) (some 46) (v := ?_) rfl rfl (by kernel_rfl) (by kernel_rfl) (by kernel_rfl) (by kernel_rfl) (fun _ _ _ h => h) (by rfl) (by assumption) ?_ ?_
                rotate_left
                · (intro wS hSw; (try dsimp only at hSw); go_simp; try with_reducible rfl)
                try simp only [Act.put, List.setIfInBounds_toArray, List.set_cons_zero, List.set_cons_succ]
                refine uReady (rs := [5]) (by kernel_rfl) (by simp) ?_
                refine ReadyU.cons rfl (fun KK hKK => ?_) ReadyU.nil
                go_simp
                refine (lrMessage_v l.L[k] hmm.out _ _ _).mono ?_
                rintro e w4 ⟨rfl, hb⟩
                have E8 := Lib.hid (E7.out.below hb)
                clear E7 hb
                (try dsimp only)
                clear hHeld
                refine hKK.out _ _ (⟨((E8.out.bx 0 rfl).cell 1 rfl), ((E8.out.bx 0 rfl).cell 2 rfl), (E8.out.fc 2 rfl).2, (E8.out.fc 3 rfl).2, (E8.out.fc 4 rfl).2, (E8.out.fc 5 rfl).2, (E8.out.fc 6 rfl).2, (E8.out.fc 1 rfl).2, (E8.out.fc 0 rfl).2⟩) (fun hHeld => ?_)
                clear hKK KK
                try simp only [Act.put, List.setIfInBounds_toArray, List.set_cons_zero, List.set_cons_succ]
                refine uTake (i := 6) (some 48) (v := ?_) rfl rfl (by kernel_rfl) (by kernel_rfl) (by kernel_rfl) (by kernel_rfl) (fun _ _ _ h => h) (by rfl) (by assumption) ?_ ?_
                rotate_left
                · (intro wS hSw; (try dsimp only at hSw); go_simp; try with_reducible rfl)
                try simp only [Act.put, List.setIfInBounds_toArray, List.set_cons_zero, List.set_cons_succ]
                refine uTake (i := 7) (some 49) (v := ?_) rfl rfl (by kernel_rfl) (by kernel_rfl) (by kernel_rfl) (by kernel_rfl) (fun _ _ _ h => h) (by rfl) (by assumption) ?_ ?_
                rotate_left
                · (intro wS hSw; (try dsimp only at hSw); go_simp; try with_reducible rfl)
                try simp only [Act.put, List.setIfInBounds_toArray, List.set_cons_zero, List.set_cons_succ]
                refine uTake (i := 8) (some 50) (v := ?_) rfl rfl (by kernel_rfl) (by kernel_rfl) (by kernel_rfl) (by kernel_rfl) (fun _ _ _ h => h) (by rfl) (by assumption) ?_ ?_
                rotate_left
                · (intro wS hSw; (try dsimp only at hSw); go_simp; try with_reducible rfl)
                try simp only [Act.put, List.setIfInBounds_toArray, List.set_cons_zero, List.set_cons_succ]
                refine uTake (i := 9) (some 51) (v := ?_) rfl rfl (by kernel_rfl) (by kernel_rfl) (by kernel_rfl) (by kernel_rfl) (fun _ _ _ h => h) (by rfl) (by assumption) ?_ ?_
                rotate_left
                · (intro wS hSw; (try dsimp only at hSw); go_simp; try with_reducible rfl)
                try simp only [Act.put, List.setIfInBounds_toArray, List.set_cons_zero, List.set_cons_succ]
                refine uTake (i := 10) (some 52) (v := ?_) rfl rfl (by kernel_rfl) (by kernel_rfl) (by kernel_rfl) (by kernel_rfl) (fun _ _ _ h => h) (by rfl) (by assumption) ?_ ?_
                rotate_left
                · (intro wS hSw; (try dsimp only at hSw); go_simp; try with_reducible rfl)
                try simp only [Act.put, List.setIfInBounds_toArray, List.set_cons_zero, List.set_cons_succ]
                refine uTake (i := 11) (some 53) (v := ?_) rfl rfl (by kernel_rfl) (by kernel_rfl) (by kernel_rfl) (by kernel_rfl) (fun _ _ _ h => h) (by rfl) (by assumption) ?_ ?_
                rotate_left
                · (intro wS hSw; (try dsimp only at hSw); go_simp; try with_reducible rfl)
                try simp only [Act.put, List.setIfInBounds_toArray, List.set_cons_zero, List.set_cons_succ]
                refine uTake (i := 12) (some 54) (v := ?_) rfl rfl (by kernel_rfl) (by kernel_rfl) (by kernel_rfl) (by kernel_rfl) (fun _ _ _ h => h) (by rfl) (by assumption) ?_ ?_
                rotate_left
                · (intro wS hSw; (try dsimp only at hSw); go_simp; try with_reducible rfl)
                try simp only [Act.put, List.setIfInBounds_toArray, List.set_cons_zero, List.set_cons_succ]
                refine uReady (rs := [13]) (by kernel_rfl) (by simp) ?_
                refine ReadyU.cons rfl (fun KK hKK => ?_) ReadyU.nil
                go_simp
                refine (rIn_v hvv.out _).mono ?_
                rintro e w5 ⟨rfl, hb⟩
                have E9 := Lib.hid (E8.out.below hb)
                clear E8 hb
                (try dsimp only)
                clear hHeld
                refine hKK.out _ _ (⟨((E9.out.bx 0 rfl).cell 1 rfl), ((E9.out.bx 0 rfl).cell 2 rfl), (E9.out.fc 2 rfl).2, (E9.out.fc 3 rfl).2, (E9.out.fc 4 rfl).2, (E9.out.fc 5 rfl).2, (E9.out.fc 6 rfl).2, (E9.out.fc 1 rfl).2, (E9.out.fc 0 rfl).2⟩) (fun hHeld => ?_)
                clear hKK KK
                try simp only [Act.put, List.setIfInBounds_toArray, List.set_cons_zero, List.set_cons_succ]
                refine uTake (i := 14) (some 56) (v := ?_) rfl rfl (by kernel_rfl) (by kernel_rfl) (by kernel_rfl) (by kernel_rfl) (fun _ _ _ h => h) (by rfl) (by assumption) ?_ ?_
                rotate_left
                · (intro wS hSw; (try dsimp only at hSw); go_simp; try with_reducible rfl)
                try simp only [Act.put, List.setIfInBounds_toArray, List.set_cons_zero, List.set_cons_succ]
                refine uTake (i := 15) (some 57) (v := ?_) rfl rfl (by kernel_rfl) (by kernel_rfl) (by kernel_rfl) (by kernel_rfl) (fun _ _ _ h => h) (by rfl) (by assumption) ?_ ?_
                rotate_left
                · (intro wS hSw; (try dsimp only at hSw); go_simp; try with_reducible rfl)
                try simp only [Act.put, List.setIfInBounds_toArray, List.set_cons_zero, List.set_cons_succ]
                refine uTake (i := 16) (some 58) (v := ?_) rfl rfl (by kernel_rfl) (by kernel_rfl) (by kernel_rfl) (by kernel_rfl) (fun _ _ _ h => h) (by rfl) (by assumption) ?_ ?_
                rotate_left
                · (intro wS hSw; (try dsimp only at hSw); go_simp; try with_reducible rfl)
                try simp only [Act.put, List.setIfInBounds_toArray, List.set_cons_zero, List.set_cons_succ]
                refine uTake (i := 17) (some 59) (v := ?_) rfl rfl (by kernel_rfl) (by kernel_rfl) (by kernel_rfl) (by kernel_rfl) (fun _ _ _ h => h) (by rfl) (by assumption) ?_ ?_
                rotate_left
                · (intro wS hSw; (try dsimp only at hSw); go_simp; try with_reducible rfl)
                try simp only [Act.put, List.setIfInBounds_toArray, List.set_cons_zero, List.set_cons_succ]
                refine uTake (i := 18) (some 60) (v := .bool true) rfl rfl (by kernel_rfl) (by kernel_rfl) (by kernel_rfl) (by kernel_rfl) (fun _ _ _ h => h) (by rfl) (by assumption) ?_ ?_
                · (intro wS hSw; (try dsimp only at hSw); go_simp; try simp [*])
                try simp only [Act.put, List.setIfInBounds_toArray, List.set_cons_zero, List.set_cons_succ]
                refine uTake (i := 19) (some 61) (v := ?_) rfl rfl (by kernel_rfl) (by kernel_rfl) (by kernel_rfl) (by kernel_rfl) (fun _ _ _ h => h) (by rfl) (by assumption) ?_ ?_
                rotate_left
                · (intro wS hSw; (try dsimp only at hSw); go_simp; try with_reducible rfl)
                try simp only [Act.put, List.setIfInBounds_toArray, List.set_cons_zero, List.set_cons_succ]
                refine uTake (i := 20) (some 62) (v := ?_) rfl rfl (by kernel_rfl) (by kernel_rfl) (by kernel_rfl) (by kernel_rfl) (fun _ _ _ h => h) (by rfl) (by assumption) ?_ ?_
                rotate_left
                · (intro wS hSw; (try dsimp only at hSw); go_simp; try with_reducible rfl)
                try simp only [Act.put, List.setIfInBounds_toArray, List.set_cons_zero, List.set_cons_succ]
                refine uTake (i := 21) (some 63) (v := ?_) rfl rfl (by kernel_rfl) (by kernel_rfl) (by kernel_rfl) (by kernel_rfl) (fun _ _ _ h => h) (by rfl) (by assumption) ?_ ?_
                rotate_left
                · (intro wS hSw; (try dsimp only at hSw); go_simp; try with_reducible rfl)
                try simp only [Act.put, List.setIfInBounds_toArray, List.set_cons_zero, List.set_cons_succ]
                refine uTake (i := 22) (some 64) (v := ?_) rfl rfl (by kernel_rfl) (by kernel_rfl) (by kernel_rfl) (by kernel_rfl) (fun _ _ _ h => h) (by rfl) (by assumption) ?_ ?_
                rotate_left
                · (intro wS hSw; (try dsimp only at hSw); go_simp; try with_reducible rfl)
                try simp only [Act.put, List.setIfInBounds_toArray, List.set_cons_zero, List.set_cons_succ]
                refine uTake (i := 23) (some 65) (v := ?_) rfl rfl (by kernel_rfl) (by kernel_rfl) (by kernel_rfl) (by kernel_rfl) (fun _ _ _ h => h) (by rfl) (by assumption) ?_ ?_
                rotate_left
                · (intro wS hSw; (try dsimp only at hSw); go_simp; try with_reducible rfl)
                try simp only [Act.put, List.setIfInBounds_toArray, List.set_cons_zero, List.set_cons_succ]
                refine uTake (i := 24) (some 66) (v := ?_) rfl rfl (by kernel_rfl) (by kernel_rfl) (by kernel_rfl) (by kernel_rfl) (fun _ _ _ h => h) (by rfl) (by assumption) ?_ ?_
                rotate_left
                · (intro wS hSw; (try dsimp only at hSw); go_simp; try with_reducible rfl)
                try simp only [Act.put, List.setIfInBounds_toArray, List.set_cons_zero, List.set_cons_succ]
                refine uTake (i := 25) (some 67) (v := ?_) rfl rfl (by kernel_rfl) (by kernel_rfl) (by kernel_rfl) (by kernel_rfl) (fun _ _ _ h => h) (by rfl) (by assumption) ?_ ?_
                rotate_left
                · (intro wS hSw; (try dsimp only at hSw); go_simp; try with_reducible rfl)
                try simp only [Act.put, List.setIfInBounds_toArray, List.set_cons_zero, List.set_cons_succ]
                refine uTake (i := 26) (some 68) (v := ?_) rfl rfl (by kernel_rfl) (by kernel_rfl) (by kernel_rfl) (by kernel_rfl) (fun _ _ _ h => h) (by rfl) (by assumption) ?_ ?_
                rotate_left
                · (intro wS hSw; (try dsimp only at hSw); go_simp; try with_reducible rfl)
                try simp only [Act.put, List.setIfInBounds_toArray, List.set_cons_zero, List.set_cons_succ]
                refine uTake (i := 27) (some 69) (v := ?_) rfl rfl (by kernel_rfl) (by kernel_rfl) (by kernel_rfl) (by kernel_rfl) (fun _ _ _ h => h) (by rfl) (by assumption) ?_ ?_
                rotate_left
                · (intro wS hSw; (try dsimp only at hSw); go_simp; try with_reducible rfl)
                try simp only [Act.put, List.setIfInBounds_toArray, List.set_cons_zero, List.set_cons_succ]
                refine uTake (i := 28) (some 70) (v := ?_) rfl rfl (by kernel_rfl) (by kernel_rfl) (by kernel_rfl) (by kernel_rfl) (fun _ _ _ h => h) (by rfl) (by assumption) ?_ ?_
                rotate_left
                · (intro wS hSw; (try dsimp only at hSw); go_simp; try with_reducible rfl)
                try simp only [Act.put, List.setIfInBounds_toArray, List.set_cons_zero, List.set_cons_succ]
                refine uTake (i := 29) (some 71) (v := ?_) rfl rfl (by kernel_rfl) (by kernel_rfl) (by kernel_rfl) (by kernel_rfl) (fun _ _ _ h => h) (by rfl) (by assumption) ?_ ?_
                rotate_left
                · (intro wS hSw; (try dsimp only at hSw); go_simp; try with_reducible rfl)
                try simp only [Act.put, List.setIfInBounds_toArray, List.set_cons_zero, List.set_cons_succ]
                refine uTake (i := 30) (some 72) (v := ?_) rfl rfl (by kernel_rfl) (by kernel_rfl) (by kernel_rfl) (by kernel_rfl) (fun _ _ _ h => h) (by rfl) (by assumption) ?_ ?_
                rotate_left
                · (intro wS hSw; (try dsimp only at hSw); go_simp; try with_reducible rfl)
                try simp only [Act.put, List.setIfInBounds_toArray, List.set_cons_zero, List.set_cons_succ]
                refine uTake (i := 31) (some 73) (v := .bool false) rfl rfl (by kernel_rfl) (by kernel_rfl) (by kernel_rfl) (by kernel_rfl) (fun _ _ _ h => h) (by rfl) (by assumption) ?_ ?_
                · (intro wS hSw; (try dsimp only at hSw); go_simp; try simp [*])
                try simp only [Act.put, List.setIfInBounds_toArray, List.set_cons_zero, List.set_cons_succ]
                refine uTake (i := 32) (some 74) (v := ?_) rfl rfl (by kernel_rfl) (by kernel_rfl) (by kernel_rfl) (by kernel_rfl) (fun _ _ _ h => h) (by rfl) (by assumption) ?_ ?_
                rotate_left
                · (intro wS hSw; (try dsimp only at hSw); go_simp; try with_reducible rfl)
                try simp only [Act.put, List.setIfInBounds_toArray, List.set_cons_zero, List.set_cons_succ]
                refine uTake (i := 33) (some 75) (v := ?_) rfl rfl (by kernel_rfl) (by kernel_rfl) (by kernel_rfl) (by kernel_rfl) (fun _ _ _ h => h) (by rfl) (by assumption) ?_ ?_
                rotate_left
                · (intro wS hSw; (try dsimp only at hSw); go_simp; try with_reducible rfl)
                try simp only [Act.put, List.setIfInBounds_toArray, List.set_cons_zero, List.set_cons_succ]
                refine uDone (by kernel_rfl) ?_ _
                have EZ := Lib.hid ((((((((E9.out.forget).forget).forget).forget).forget).forget).forget).forget)
                go_wp2
                go_roundg (l.L.length - (k + 1))
                case rel => exact ⟨k + 1, rfl, EZ, Lib.hid ⟨⟨by omega, rfl⟩, fun i h h' hi => by by_cases e : i = k; (· subst e; exact ⟨⟨hmm.out, hvv.out⟩, fun j2 hj2 => by (have e2 : j2 = j := (by have := HJ.out; omega); subst e2; exact HB.out)⟩); exact HS.out i h h' (by omega)⟩⟩
                case measure => exact by omega
      have t6 : decide ((k : Int) < (l.L.length : Int)) = false := decide_eq_false (by omega)
      have t7 : decide (k < l.L.length) = false := decide_eq_false (by omega)
      have HT : Hid (t = true) := Lib.hid (ht.out.1 ⟨⟨H1.out, H2.out, h3, h4⟩, fun i h => (HS.out (i + 1) (by have := H2.out; omega) h (by have := H2.out; omega)).2 i rfl, fun i h h' => (HS.out i h h' (by omega)).1, H5.out⟩)
      have HY := Lib.hid hy
      clear hy
      have b4 := EL.out.bx 0 rfl
      have c4_1 := b4.cell 1 rfl
      clear b4
      have hfin := Lib.hid EL.out.bel
      go_wp2
      go_ret
      exact ⟨RB HT.out.symm, hfin.out⟩
end Go.Proofs.Ytbcfcdcomboljaa

/- poly: check. -/
import Derived.Test.YtinlfogpbologaaDoorPolW
namespace Go.Proofs.YtinlfogpbologaaDoor
open Go.RowKit DivMath WordMath
set_option linter.unusedVariables false
set_option linter.unusedSimpArgs false
theorem containsN_c {D : Nat → Prop} {l : List Nat} {x : Nat} {xa : Option Addr} {xk : Nat} {w : World} (hx : Fct.at w D (.rw (.slice xa l.length xk) l.length 1 (ncl l))) (hl : l.length ≤ 1000000) {t : Bool} (ht : l.contains x = t) :
    Calls Tryd.prog 75 #[.slice xa l.length xk, .int .i64 (x : Nat)] w fun e w' => e = .returned (.bool t) ∧ Below w.heap.size w w' := by
  subst ht
  by_cases h0 : l.length = 0
  · rw [List.length_eq_zero_iff.1 h0]
    exact (Tryd.slices_Contains_int_empty xa xk x w).mono fun e w' ⟨h1, h2⟩ => ⟨h1, by rw [h2]; exact Below.refl _ _⟩
  · obtain ⟨b1, o1, rfl⟩ := Rw.addr hx h0
    refine (Tryd.slices_Contains_int b1 o1 l.length xk (nl l) x w (by rw [nl_len]; omega) (by omega) (fun j hj => ?_)).mono fun e w' ⟨h1, h2⟩ => ⟨?_, by rw [h2]; exact Below.refl _ _⟩
    · rw [nl_len] at hj; rw [(Rw.el hx h0 (ncl_get l j hj)).2]; simp [nl, List.getElem?_eq_getElem hj]
    · have e1 : (nl l).take l.length = nl l := List.take_of_length_le (by rw [nl_len]; omega)
      rw [e1] at h1
      rw [h1]
      congr 2
      rw [Bool.eq_iff_iff, List.contains_iff_mem, List.contains_iff_mem]
      unfold nl
      rw [List.mem_map]
      exact ⟨fun ⟨n, hn, e⟩ => by (have : n = x := by exact_mod_cast e); subst this; exact hn, fun h => ⟨x, h, rfl⟩⟩
theorem nodup_take {l : List Nat} (h : l.Nodup) {k : Nat} (hk : k < l.length) : (l.take k).contains l[k] = false := by
  have h2 : (l.take (k + 1)).Nodup := h.sublist (List.take_sublist _ _)
  rw [List.take_succ_eq_append_getElem hk, List.nodup_append] at h2
  rw [Bool.eq_false_iff]
  intro hc
  have := List.contains_iff_mem.1 hc
  exact h2.2.2 _ this _ (by simp) rfl
theorem resN_c {D : Nat → Prop} (q : Nat) (l : List Nat) {xa : Option Addr} {xk : Nat} {w : World} (hx : Fct.at w D (.rw (.slice xa l.length xk) l.length 1 (ncl l))) (h : ∀ c ∈ l, c < q) (hm : l.length ≤ 1000000) :
    Calls Tryd.prog 60 #[.int .i64 (q : Nat), .slice xa l.length xk] w fun e w' => e = .returned (.bool true) ∧ Below w.heap.size w w' := by
  have := residues_c (D := D) (w := w) (xa := xa) (xk := xk) q (nl l) (by rw [nl_len]; exact hx) (nl_all h) (by rw [nl_len]; exact hm)
  rw [nl_len] at this; exact this
set_option maxRecDepth 100000 in
set_option maxHeartbeats 1000000 in
theorem check_ok {D : Nat → Prop} (q : Nat) (l b : List Nat) {xa ya : Option Addr} {xk yk : Nat} {w : World} (hx : Fct.at w D (.rw (.slice xa l.length xk) l.length 1 (ncl l))) (hy : Fct.at w D (.rw (.slice ya b.length yk) b.length 1 (ncl b))) (hl0 : Laid w) (hn : (q : Int) ≤ 9223372036854775807) (hf0 : fieldB q = true) (hlen : l.length ≤ 100) (hlb : b.length ≤ 1000) (hr0 : ∀ c ∈ l, c < q) (hs0 : ∀ c ∈ b, c < q) (hd0 : l.Nodup) :
    Calls Tryd.prog 99 #[.int .i64 (q : Nat), .slice xa l.length xk, .slice ya b.length yk] w fun e w' => e = .returned (.int .i64 0) ∧ Below w.heap.size w w' := by
  have E0 : Hid (Env D w [] [.rw (.slice ya b.length yk) b.length 1 (ncl b), .rw (.slice xa l.length xk) l.length 1 (ncl l)] w) := Lib.hid (((Env.start D w).arg (.rw (.slice xa l.length xk) l.length 1 (ncl l)) hx).arg (.rw (.slice ya b.length yk) b.length 1 (ncl b)) hy)
  clear hx hy
  go_enter Tryd.func99, Tryd.ntmps99
  have hl := Lib.hid hl0
  have hf := Lib.hid hf0
  have hr := Lib.hid hr0
  have hs := Lib.hid hs0
  have hd := Lib.hid hd0
  clear hl0 hf0 hr0 hs0 hd0
  have d1 : decide ((100 : Int) < (l.length : Int)) = false := decide_eq_false (by omega)
  have hq2 : -9223372036854775808 ≤ (q : Int) ∧ (q : Int) ≤ 9223372036854775807 := by omega
  go_wp2_with fail
  refine (isPrime_c q _ (hl.out.below E0.out.bel) hq2 hf.out).mono ?_
  rintro e w1 ⟨rfl, hb⟩
  have E1 : Hid (Env D w [] [.rw (.slice ya b.length yk) b.length 1 (ncl b), .rw (.slice xa l.length xk) l.length 1 (ncl l)] w1) := Lib.hid (E0.out.below hb)
  clear E0 hb
  go_wp2_with fail
  refine (resN_c q l (E1.out.fc 1 rfl) hr.out (by omega)).mono ?_
  rintro e w2 ⟨rfl, hb⟩
  have E2 : Hid (Env D w [] [.rw (.slice ya b.length yk) b.length 1 (ncl b), .rw (.slice xa l.length xk) l.length 1 (ncl l)] w2) := Lib.hid (E1.out.below hb)
  clear E1 hb
  go_wp2_with fail
  refine (resN_c q b (E2.out.fc 0 rfl) hs.out (by omega)).mono ?_
  rintro e w3 ⟨rfl, hb⟩
  have E3 : Hid (Env D w [] [.rw (.slice ya b.length yk) b.length 1 (ncl b), .rw (.slice xa l.length xk) l.length 1 (ncl l)] w3) := Lib.hid (E2.out.below hb)
  clear E2 hb
  go_wp2_with fail
  go_loopg [31] (l.length) (fun gk s31 wr => ∃ (k : Nat), s31 = .int .i64 (k : Int) ∧ Hid (Env D w [] [.rw (.slice ya b.length yk) b.length 1 (ncl b), .rw (.slice xa l.length xk) l.length 1 (ncl l)] wr) ∧ Hid (k ≤ l.length ∧ gk = l.length - k))
  case atStart => exact ⟨0, rfl, Lib.hid E3.out, Lib.hid ⟨Nat.zero_le _, rfl⟩⟩
  case round =>
    clear E3
    obtain ⟨k, rfl, EL, HA⟩ := hrel
    obtain ⟨a1, a2⟩ := HA.out
    clear HA
    by_cases hy : k = l.length
    rotate_left
    · have hk : k < l.length := by omega
      have t6 : decide ((k : Int) < (l.length : Int)) = true := decide_eq_true (by omega)
      have t7 : decide (k < l.length) = true := decide_eq_true hk
      clear hy
      have hk9 : (k : Int) ≤ 99 := by omega
      obtain ⟨hcap, hcap9⟩ := Rw.cap (EL.out.fc 1 rfl)
      have hnk : k ≤ xk := by omega
      have hnk2 : (k : Int) ≤ (xk : Int) := by omega
      clear hcap
      obtain ⟨xab, xao, rfl⟩ := Rw.addr (EL.out.fc 1 rfl) (by omega)
      have E4 : Hid (Env D w [] [.ce xab (xao + k) (.int .i64 (l[k] : Nat)), .rw (.slice ya b.length yk) b.length 1 (ncl b), .rw (.slice (some ⟨xab, xao, none⟩) l.length xk) l.length 1 (ncl l)] _) := Lib.hid (EL.out.elN 1 rfl rfl (k) hk)
      clear EL
      have u0 := (E4.out.fc 0 rfl).2
      have hln : (l.take k).length = k := by simp; omega
      have cc := containsN_c (Rw.takeN (E4.out.fc 2 rfl) (Nat.le_of_lt hk)) (by simp; omega) (nodup_take hd.out hk)
      rw [hln] at cc
      have CC := Lib.hid cc
      clear cc hln
      go_wp2_with fail
      refine (CC.out).mono ?_
      rintro e w4 ⟨rfl, hb⟩
      have E5 : Hid (Env D w [] [.ce xab (xao + k) (.int .i64 (l[k] : Nat)), .rw (.slice ya b.length yk) b.length 1 (ncl b), .rw (.slice (some ⟨xab, xao, none⟩) l.length xk) l.length 1 (ncl l)] w4) := Lib.hid (E4.out.below hb)
      clear u0 E4 hb
      have EZ := Lib.hid (E5.out.forget)
      go_wp2
      go_roundg (l.length - (k + 1))
      case rel => exact ⟨k + 1, rfl, EZ, Lib.hid ⟨by omega, rfl⟩⟩
      case measure => exact by omega
    have t6 : decide ((k : Int) < (l.length : Int)) = false := decide_eq_false (by omega)
    have t7 : decide (k < l.length) = false := decide_eq_false (by omega)
    clear hy
    have hfin := Lib.hid EL.out.bel
    go_wp2
    go_ret
    exact ⟨rfl, hfin.out⟩
end Go.Proofs.YtinlfogpbologaaDoor

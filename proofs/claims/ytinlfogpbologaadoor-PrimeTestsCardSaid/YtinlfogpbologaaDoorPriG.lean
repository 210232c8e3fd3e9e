/- Factors of both. -/
import Derived.Test.YtinlfogpbologaaDoorPNl
namespace Go.Proofs.YtinlfogpbologaaDoor
open Go.RowKit DivMath WordMath
set_option linter.unusedVariables false
set_option linter.unusedSimpArgs false
theorem IsB (n : Int) (w : World) {t : Bool} (hl : Laid w) (hn : -9223372036854775808 ≤ n ∧ n ≤ 9223372036854775807) (ht : Pri.isP n.toNat = t) :
    Calls Tryd.prog 55 #[.int .i64 n] w fun e w' => e = .returned (.bool t) ∧ Below w.heap.size w w' := by
  refine (Is_c n w hl hn).mono ?_
  rintro e w' ⟨rfl, n, rfl⟩
  exact ⟨by rw [ht], below_drewN (Below.refl _ _) _⟩
theorem rIsB (n : Int) (w : World) {t : Bool} (hn : -9223372036854775808 ≤ n ∧ n ≤ 2305843009213693951) (ht : Pri.isP n.toNat = t) :
    Calls Tryd.prog 52 #[.int .i64 n] w fun e w' => e = .returned (.bool t) ∧ Below w.heap.size w w' := by
  refine (rIs_c n w hn).mono ?_
  rintro e w' ⟨rfl, hb⟩
  exact ⟨by rw [ht], hb⟩
/-- a row of residues and a truth value came back -/
def RetIB (D : Nat → Prop) (l : List Nat) (t : Bool) (e : Ending) (W : World) : Prop := ∃ ao k, e = .returned (.tuple #[.slice ao l.length k, .bool t]) ∧ Hid (Rw W D (.slice ao l.length k) l.length 1 (ncl l))
theorem Rw.eqN {W : World} {D : Nat → Prop} {a : Option Addr} {k : Nat} {l m : List Nat} (h : Rw W D (.slice a (nl l).length k) l.length 1 (ncl l)) (e : l = m) : Rw W D (.slice a m.length k) m.length 1 (ncl m) := by
  subst e; rw [nl_len] at h; exact h
set_option maxRecDepth 100000 in
set_option maxHeartbeats 2000000 in
theorem Fac_one {D : Nat → Prop} (N : Nat) {w : World}  (hl0 : Laid w) (h0 : 1 ≤ (N : Int)) (hT : (N : Int) ≤ 2305843009213693951) (hz0 : (Pri.facs 2 N).2 = 1) :
    Calls Tryd.prog 49 #[.int .i64 (N : Nat)] w fun e w' => RetIE (fun b => w.heap.size ≤ b) (Pri.facs 2 N).1 0 e w' ∧ Below w.heap.size w w' := by
  have E0 : Hid (Env D w [] [] w) := Lib.hid (Env.start D w)
  go_enter Tryd.func49, Tryd.ntmps49
  have hz := Lib.hid hz0
  clear hz0
  have hl := Lib.hid hl0
  clear hl0
  have hst := Pri.Fac.start (N := N) (by omega)
  have HST := Lib.hid hst
  clear hst
  have d1 : decide ((N : Int) < 1) = false := decide_eq_false (by omega)
  have d2 : decide ((2305843009213693952 : Int) ≤ (N : Int)) = false := decide_eq_false (by omega)
  have d3 : decide (N < 1) = false := decide_eq_false (by omega)
  have d3b : decide (2305843009213693952 ≤ N) = false := decide_eq_false (by omega)
  have HN := Lib.hid h0
  have HT := Lib.hid hT
  go_wp2_with fail
  go_loopg [5, 0, 4] (1048576) (fun gk s5 s0 s4 wr => ∃ (p m : Nat) (sg : List Bx) (cs : List Value) (va : Option Addr) (vk : Nat) (o : List Nat), s5 = .int .i64 (p : Int) ∧ s0 = .int .i64 (m : Int) ∧ s4 = .slice va (nl o).length vk ∧ Hid (Env D w (sg) [] wr) ∧ Hid (OI sg cs (.slice va (nl o).length vk) (nl o)) ∧ Hid ((2 ≤ p ∧ p ≤ 1048578 ∧ gk = 1048578 - p) ∧ (p = 2 ∨ p % 2 = 1 ∧ m % 2 = 1) ∧ Pri.Fac N p m o))
  case atStart => exact ⟨2, N, [], [], none, 0, [], rfl, rfl, rfl, Lib.hid (E0.out.cast (by simp)), Lib.hid OI.nlnil, Lib.hid ⟨⟨by omega, by omega, rfl⟩, .inl rfl, HST.out⟩⟩
  case round =>
    clear E0
    obtain ⟨p, m, sg, cs, va, vk, o, rfl, rfl, rfl, EL, hO, HA⟩ := hrel
    clear d1 d2 d3 d3b
    clear h0 hT
    obtain ⟨⟨a1, a2, a4⟩, a5, a6⟩ := HA.out
    have HF := Lib.hid a6
    have HP := Lib.hid a5
    have hm1 := a6.2.2.1
    have hm2 : (m : Int) ≤ 2305843009213693951 := by have := a6.2.2.2; have := HT.out; omega
    clear a5 a6 HA HST
    obtain ⟨pp, hpp⟩ : ∃ pp, pp = p * p := ⟨_, rfl⟩
    have hpb : (pp : Int) ≤ 1099515822084 := by have : p * p ≤ 1048578 * 1048578 := Nat.mul_le_mul a2 a2; omega
    have e2 : (p : Int) * (p : Int) = (pp : Int) := by rw [hpp]; rfl
    have e1 : wrap64 ((p : Int) * (p : Int)) = (pp : Int) := by rw [e2, IntWalk.wrap64_in _ (by omega)]
    have HPP := Lib.hid hpp
    clear hpp
    have hp9 : (p : Int) ≤ 1048578 := by omega
    by_cases hc : p ≤ 1048576 ∧ pp ≤ m
    · have t1 : decide ((p : Int) ≤ 1048576) = true := decide_eq_true (by omega)
      have t1n : decide (p ≤ 1048576) = true := decide_eq_true hc.1
      have t2 : decide ((pp : Int) ≤ (m : Int)) = true := decide_eq_true (by omega)
      have t2n : decide (pp ≤ m) = true := decide_eq_true hc.2
      have HPL := Lib.hid (HF.out.go hc.1 (by rw [← HPP.out]; exact hc.2))
      have hp8 := hc.1
      clear hc HF
      go_wp2_with fail
      go_loopg [0, 4] (m) (fun gk s0 s4 wr => ∃ (n : Nat) (sgi : List Bx) (csi : List Value) (vai : Option Addr) (vki : Nat) (oi : List Nat), s0 = .int .i64 (n : Int) ∧ s4 = .slice vai (nl oi).length vki ∧ Hid (Env D w (sgi) [] wr) ∧ Hid (OI sgi csi (.slice vai (nl oi).length vki) (nl oi)) ∧ Hid (gk = n ∧ (p = 2 ∨ p % 2 = 1 ∧ n % 2 = 1) ∧ Pri.Pul N p n oi))
      case atStart => exact ⟨m, sg, cs, va, vk, o, rfl, rfl, Lib.hid (EL.out.cast (by simp)), Lib.hid hO.out, Lib.hid ⟨rfl, HP.out, HPL.out⟩⟩
      case round =>
        clear EL
        obtain ⟨n, sgi, csi, vai, vki, oi, rfl, rfl, EL, hOi, HA⟩ := hrel
        clear t1 t1n t2 t2n e1 e2 hpb
        obtain ⟨b1, b2, b3⟩ := HA.out
        have HQ := Lib.hid b3
        have HP2 := Lib.hid b2
        have hn1 := b3.2.2.1
        have hn2 : (n : Int) ≤ 2305843009213693951 := by have := b3.2.2.2; have := HT.out; omega
        clear b2 b3 HA HPL HP
        have hpz : ((p : Int) == 0) = false := beq_eq_false_iff_ne.2 (by omega)
        have hol : (nl oi).length + 1 ≤ 1000000 := by rw [nl_len]; have := HQ.out.len (by have := HN.out; omega) (by have := HT.out; omega); omega
        have HOL := Lib.hid hol
        clear hol
        by_cases hd : n % p = 0
        · have t3 : ((n : Int) % (p : Int) == 0) = true := by rw [beq_iff_eq, ← Int.natCast_emod, hd]; rfl
          obtain ⟨d, hdd⟩ : ∃ d, d = n / p := ⟨_, rfl⟩
          have e4 : (n : Int) / (p : Int) = (d : Int) := by rw [hdd]; rfl
          have hlt : d < n := by rw [hdd]; exact Nat.div_lt_self hn1 (by omega)
          have HS := Lib.hid (HQ.out.step (by omega) hd)
          have HP3 : Hid (p = 2 ∨ p % 2 = 1 ∧ d % 2 = 1) := Lib.hid (by rcases HP2.out with h | h; (· exact .inl h); exact .inr ⟨h.1, by rw [hdd]; exact Pri.div_odd hd h.2⟩)
          rw [← hdd] at HS
          clear hdd hd HQ HP2
          have E1 : Hid (Env D w ((wr.heap.size, 3, [.int .i64 (p : Int)]) :: sgi) [] _) := Lib.hid ((EL.out.push 3 [.int .i64 (p : Int)] (wr.heap.size) (by simp)))
          go_wp2_with (at_builtin; refine wpl_app1 (c := 1) tiI rfl _ _ rfl E1.out (A := [(wr.heap.size, 3, [.int .i64 (p : Int)])]) (sg := sgi) (B' := []) (F := ((wr.heap.size, 3, [.int .i64 (p : Int)]) :: sgi)) (by simp) (hOi.out.os rfl) rfl rfl (SrcN.int (E1.out.bx 0 rfl)) HOL.out ?_)
          intro zg zp zc w1 zH zT zE
          have zO := Lib.hid (OI.app (x := ((p : Nat) : Int)) (g' := zg) (cs' := zc) (cap' := zp) hOi.out rfl (by simpa using zH.out) (by simpa using zT.out))
          have E2 : Hid (Env D w ((wr.heap.size, 3, [.int .i64 (p : Int)]) :: [(zg, 3, zc)]) [] w1) := Lib.hid (zE.out.cast (by simp))
          clear EL E1 zE zH zT hOi
          have EZ := Lib.hid (E2.out.drop)
          have OZ := Lib.hid (OI.snoc (x := p) zO.out)
          go_wp2
          go_roundg (d)
          case rel => exact ⟨d, [(zg, 3, zc)], zc, some ⟨zg, 0, none⟩, zp, (oi ++ [p]), rfl, OI.v, EZ, OZ, Lib.hid ⟨rfl, HP3.out, HS.out⟩⟩
          case measure => exact by omega
        have t3 : ((n : Int) % (p : Int) == 0) = false := by rw [beq_eq_false_iff_ne, ← Int.natCast_emod]; exact fun h => hd (by omega)
        have HS := Lib.hid (HQ.out.stop hd)
        have hodd : n % 2 = 1 := by rcases HP2.out with h | h; (· rw [h] at hd; omega); exact h.2
        have HO := Lib.hid hodd
        clear hodd
        obtain ⟨b, hb⟩ : ∃ b, b = p % 2 := ⟨_, rfl⟩
        have hb1 : (b : Int) ≤ 1 := by omega
        have e5 : bits .and .i64 (p : Int) 1 = (b : Int) := by rw [and_one_i64 p (by omega), hb]
        obtain ⟨p2, hp2⟩ : ∃ p2, p2 = p + 1 + b := ⟨_, rfl⟩
        have e6 : (p : Int) + (1 + (b : Int)) = (p2 : Int) := by omega
        have HS2 : Hid (Pri.Fac N p2 n oi) := Lib.hid (by rcases HP2.out with h | h; (· rw [hp2, hb, h]; rw [h] at HS; exact HS.out); rw [hp2, hb, h.1]; exact HS.out.skip h.2 h.1)
        have hpo : p2 % 2 = 1 := by rcases HP2.out with h | h; (· subst h; omega); omega
        have HPO := Lib.hid hpo
        have hp7 : p < p2 ∧ p2 ≤ 1048578 := by omega
        have HX := Lib.hid hd
        clear hpo hb hd HS HP2 HQ hp2
        have EZ := Lib.hid EL.out
        go_wp2
        go_roundg (1048578 - p2)
        case rel => exact ⟨p2, n, sgi, csi, vai, vki, oi, rfl, rfl, rfl, EZ, hOi, Lib.hid ⟨⟨by omega, by omega, rfl⟩, .inr ⟨HPO.out, HO.out⟩, HS2.out⟩⟩
        case measure => exact by omega
    have hd := HF.out.done (by rw [← HPP.out]; exact hc)
    obtain ⟨ho9, hm9⟩ := hd
    have HO := Lib.hid ho9
    have hol : (nl o).length + 1 ≤ 1000000 := by rw [nl_len]; have := HF.out.len (by have := HN.out; omega) (by have := HT.out; omega); omega
    have HOL := Lib.hid hol
    clear hol ho9 HF HP
    have HZ : Hid (m = (Pri.facs 2 N).2) := Lib.hid hm9
    clear hm9
    have hm5 : m = 1 := by rw [HZ.out]; exact hz.out
    have t5 : ((m : Int) == 1) = true := by rw [beq_iff_eq]; omega
    have t5n : (m == 1) = true := by rw [beq_iff_eq]; omega
    clear hm5
    by_cases hc1 : p ≤ 1048576
    · have t1 : decide ((p : Int) ≤ 1048576) = true := decide_eq_true (by omega)
      have t1n : decide (p ≤ 1048576) = true := decide_eq_true hc1
      have t2 : decide ((pp : Int) ≤ (m : Int)) = false := decide_eq_false (by omega)
      have t2n : decide (pp ≤ m) = false := decide_eq_false (by omega)
      have HC := Lib.hid hc
      clear hc hc1
      have HD : Hid (o = (Pri.facs 2 N).1) := HO
      have hres := Lib.hid (hO.out.rwN EL.out (by intro p hp; exact hp))
      have hbel := Lib.hid EL.out.bel
      go_wp2
      go_ret2
      refine ⟨⟨va, vk, ?_, Lib.hid (hres.out.eqN HD.out)⟩, hbel.out⟩
      rw [← HD.out]; simp [nl_len]
    · have t1 : decide ((p : Int) ≤ 1048576) = false := decide_eq_false (by omega)
      have t1n : decide (p ≤ 1048576) = false := decide_eq_false hc1
      have HC := Lib.hid hc
      clear hc hc1
      have HD : Hid (o = (Pri.facs 2 N).1) := HO
      have hres := Lib.hid (hO.out.rwN EL.out (by intro p hp; exact hp))
      have hbel := Lib.hid EL.out.bel
      go_wp2
      go_ret2
      refine ⟨⟨va, vk, ?_, Lib.hid (hres.out.eqN HD.out)⟩, hbel.out⟩
      rw [← HD.out]; simp [nl_len]
set_option maxRecDepth 100000 in
set_option maxHeartbeats 2000000 in
theorem Fac_more {D : Nat → Prop} (N : Nat) {w : World}  (hl0 : Laid w) (h0 : 1 ≤ (N : Int)) (hT : (N : Int) ≤ 2305843009213693951) (hz0 : ¬ (Pri.facs 2 N).2 = 1) (hp0 : Pri.isP (Pri.facs 2 N).2 = true) :
    Calls Tryd.prog 49 #[.int .i64 (N : Nat)] w fun e w' => RetIE (fun b => w.heap.size ≤ b) ((Pri.facs 2 N).1 ++ [(Pri.facs 2 N).2]) 0 e w' ∧ Below w.heap.size w w' := by
  have E0 : Hid (Env D w [] [] w) := Lib.hid (Env.start D w)
  go_enter Tryd.func49, Tryd.ntmps49
  have hz := Lib.hid hz0
  clear hz0
  have hp := Lib.hid hp0
  clear hp0
  have hl := Lib.hid hl0
  clear hl0
  have hst := Pri.Fac.start (N := N) (by omega)
  have HST := Lib.hid hst
  clear hst
  have d1 : decide ((N : Int) < 1) = false := decide_eq_false (by omega)
  have d2 : decide ((2305843009213693952 : Int) ≤ (N : Int)) = false := decide_eq_false (by omega)
  have d3 : decide (N < 1) = false := decide_eq_false (by omega)
  have d3b : decide (2305843009213693952 ≤ N) = false := decide_eq_false (by omega)
  have HN := Lib.hid h0
  have HT := Lib.hid hT
  go_wp2_with fail
  go_loopg [5, 0, 4] (1048576) (fun gk s5 s0 s4 wr => ∃ (p m : Nat) (sg : List Bx) (cs : List Value) (va : Option Addr) (vk : Nat) (o : List Nat), s5 = .int .i64 (p : Int) ∧ s0 = .int .i64 (m : Int) ∧ s4 = .slice va (nl o).length vk ∧ Hid (Env D w (sg) [] wr) ∧ Hid (OI sg cs (.slice va (nl o).length vk) (nl o)) ∧ Hid ((2 ≤ p ∧ p ≤ 1048578 ∧ gk = 1048578 - p) ∧ (p = 2 ∨ p % 2 = 1 ∧ m % 2 = 1) ∧ Pri.Fac N p m o))
  case atStart => exact ⟨2, N, [], [], none, 0, [], rfl, rfl, rfl, Lib.hid (E0.out.cast (by simp)), Lib.hid OI.nlnil, Lib.hid ⟨⟨by omega, by omega, rfl⟩, .inl rfl, HST.out⟩⟩
  case round =>
    clear E0
    obtain ⟨p, m, sg, cs, va, vk, o, rfl, rfl, rfl, EL, hO, HA⟩ := hrel
    clear d1 d2 d3 d3b
    clear h0 hT
    obtain ⟨⟨a1, a2, a4⟩, a5, a6⟩ := HA.out
    have HF := Lib.hid a6
    have HP := Lib.hid a5
    have hm1 := a6.2.2.1
    have hm2 : (m : Int) ≤ 2305843009213693951 := by have := a6.2.2.2; have := HT.out; omega
    clear a5 a6 HA HST
    obtain ⟨pp, hpp⟩ : ∃ pp, pp = p * p := ⟨_, rfl⟩
    have hpb : (pp : Int) ≤ 1099515822084 := by have : p * p ≤ 1048578 * 1048578 := Nat.mul_le_mul a2 a2; omega
    have e2 : (p : Int) * (p : Int) = (pp : Int) := by rw [hpp]; rfl
    have e1 : wrap64 ((p : Int) * (p : Int)) = (pp : Int) := by rw [e2, IntWalk.wrap64_in _ (by omega)]
    have HPP := Lib.hid hpp
    clear hpp
    have hp9 : (p : Int) ≤ 1048578 := by omega
    by_cases hc : p ≤ 1048576 ∧ pp ≤ m
    · have t1 : decide ((p : Int) ≤ 1048576) = true := decide_eq_true (by omega)
      have t1n : decide (p ≤ 1048576) = true := decide_eq_true hc.1
      have t2 : decide ((pp : Int) ≤ (m : Int)) = true := decide_eq_true (by omega)
      have t2n : decide (pp ≤ m) = true := decide_eq_true hc.2
      have HPL := Lib.hid (HF.out.go hc.1 (by rw [← HPP.out]; exact hc.2))
      have hp8 := hc.1
      clear hc HF
      go_wp2_with fail
      go_loopg [0, 4] (m) (fun gk s0 s4 wr => ∃ (n : Nat) (sgi : List Bx) (csi : List Value) (vai : Option Addr) (vki : Nat) (oi : List Nat), s0 = .int .i64 (n : Int) ∧ s4 = .slice vai (nl oi).length vki ∧ Hid (Env D w (sgi) [] wr) ∧ Hid (OI sgi csi (.slice vai (nl oi).length vki) (nl oi)) ∧ Hid (gk = n ∧ (p = 2 ∨ p % 2 = 1 ∧ n % 2 = 1) ∧ Pri.Pul N p n oi))
      case atStart => exact ⟨m, sg, cs, va, vk, o, rfl, rfl, Lib.hid (EL.out.cast (by simp)), Lib.hid hO.out, Lib.hid ⟨rfl, HP.out, HPL.out⟩⟩
      case round =>
        clear EL
        obtain ⟨n, sgi, csi, vai, vki, oi, rfl, rfl, EL, hOi, HA⟩ := hrel
        clear t1 t1n t2 t2n e1 e2 hpb
        obtain ⟨b1, b2, b3⟩ := HA.out
        have HQ := Lib.hid b3
        have HP2 := Lib.hid b2
        have hn1 := b3.2.2.1
        have hn2 : (n : Int) ≤ 2305843009213693951 := by have := b3.2.2.2; have := HT.out; omega
        clear b2 b3 HA HPL HP
        have hpz : ((p : Int) == 0) = false := beq_eq_false_iff_ne.2 (by omega)
        have hol : (nl oi).length + 1 ≤ 1000000 := by rw [nl_len]; have := HQ.out.len (by have := HN.out; omega) (by have := HT.out; omega); omega
        have HOL := Lib.hid hol
        clear hol
        by_cases hd : n % p = 0
        · have t3 : ((n : Int) % (p : Int) == 0) = true := by rw [beq_iff_eq, ← Int.natCast_emod, hd]; rfl
          obtain ⟨d, hdd⟩ : ∃ d, d = n / p := ⟨_, rfl⟩
          have e4 : (n : Int) / (p : Int) = (d : Int) := by rw [hdd]; rfl
          have hlt : d < n := by rw [hdd]; exact Nat.div_lt_self hn1 (by omega)
          have HS := Lib.hid (HQ.out.step (by omega) hd)
          have HP3 : Hid (p = 2 ∨ p % 2 = 1 ∧ d % 2 = 1) := Lib.hid (by rcases HP2.out with h | h; (· exact .inl h); exact .inr ⟨h.1, by rw [hdd]; exact Pri.div_odd hd h.2⟩)
          rw [← hdd] at HS
          clear hdd hd HQ HP2
          have E1 : Hid (Env D w ((wr.heap.size, 3, [.int .i64 (p : Int)]) :: sgi) [] _) := Lib.hid ((EL.out.push 3 [.int .i64 (p : Int)] (wr.heap.size) (by simp)))
          go_wp2_with (at_builtin; refine wpl_app1 (c := 1) tiI rfl _ _ rfl E1.out (A := [(wr.heap.size, 3, [.int .i64 (p : Int)])]) (sg := sgi) (B' := []) (F := ((wr.heap.size, 3, [.int .i64 (p : Int)]) :: sgi)) (by simp) (hOi.out.os rfl) rfl rfl (SrcN.int (E1.out.bx 0 rfl)) HOL.out ?_)
          intro zg zp zc w1 zH zT zE
          have zO := Lib.hid (OI.app (x := ((p : Nat) : Int)) (g' := zg) (cs' := zc) (cap' := zp) hOi.out rfl (by simpa using zH.out) (by simpa using zT.out))
          have E2 : Hid (Env D w ((wr.heap.size, 3, [.int .i64 (p : Int)]) :: [(zg, 3, zc)]) [] w1) := Lib.hid (zE.out.cast (by simp))
          clear EL E1 zE zH zT hOi
          have EZ := Lib.hid (E2.out.drop)
          have OZ := Lib.hid (OI.snoc (x := p) zO.out)
          go_wp2
          go_roundg (d)
          case rel => exact ⟨d, [(zg, 3, zc)], zc, some ⟨zg, 0, none⟩, zp, (oi ++ [p]), rfl, OI.v, EZ, OZ, Lib.hid ⟨rfl, HP3.out, HS.out⟩⟩
          case measure => exact by omega
        have t3 : ((n : Int) % (p : Int) == 0) = false := by rw [beq_eq_false_iff_ne, ← Int.natCast_emod]; exact fun h => hd (by omega)
        have HS := Lib.hid (HQ.out.stop hd)
        have hodd : n % 2 = 1 := by rcases HP2.out with h | h; (· rw [h] at hd; omega); exact h.2
        have HO := Lib.hid hodd
        clear hodd
        obtain ⟨b, hb⟩ : ∃ b, b = p % 2 := ⟨_, rfl⟩
        have hb1 : (b : Int) ≤ 1 := by omega
        have e5 : bits .and .i64 (p : Int) 1 = (b : Int) := by rw [and_one_i64 p (by omega), hb]
        obtain ⟨p2, hp2⟩ : ∃ p2, p2 = p + 1 + b := ⟨_, rfl⟩
        have e6 : (p : Int) + (1 + (b : Int)) = (p2 : Int) := by omega
        have HS2 : Hid (Pri.Fac N p2 n oi) := Lib.hid (by rcases HP2.out with h | h; (· rw [hp2, hb, h]; rw [h] at HS; exact HS.out); rw [hp2, hb, h.1]; exact HS.out.skip h.2 h.1)
        have hpo : p2 % 2 = 1 := by rcases HP2.out with h | h; (· subst h; omega); omega
        have HPO := Lib.hid hpo
        have hp7 : p < p2 ∧ p2 ≤ 1048578 := by omega
        have HX := Lib.hid hd
        clear hpo hb hd HS HP2 HQ hp2
        have EZ := Lib.hid EL.out
        go_wp2
        go_roundg (1048578 - p2)
        case rel => exact ⟨p2, n, sgi, csi, vai, vki, oi, rfl, rfl, rfl, EZ, hOi, Lib.hid ⟨⟨by omega, by omega, rfl⟩, .inr ⟨HPO.out, HO.out⟩, HS2.out⟩⟩
        case measure => exact by omega
    have hd := HF.out.done (by rw [← HPP.out]; exact hc)
    obtain ⟨ho9, hm9⟩ := hd
    have HO := Lib.hid ho9
    have hol : (nl o).length + 1 ≤ 1000000 := by rw [nl_len]; have := HF.out.len (by have := HN.out; omega) (by have := HT.out; omega); omega
    have HOL := Lib.hid hol
    clear hol ho9 HF HP
    have HZ : Hid (m = (Pri.facs 2 N).2) := Lib.hid hm9
    clear hm9
    have hm5 : ¬ m = 1 := by rw [HZ.out]; exact hz.out
    have t5 : ((m : Int) == 1) = false := by rw [beq_eq_false_iff_ne]; omega
    have t5n : (m == 1) = false := by rw [beq_eq_false_iff_ne]; omega
    clear hm5
    have HI : Hid (Pri.isP ((m : Int).toNat) = true) := Lib.hid (by rw [Int.toNat_natCast, HZ.out]; exact hp.out)
    by_cases hc1 : p ≤ 1048576
    · have t1 : decide ((p : Int) ≤ 1048576) = true := decide_eq_true (by omega)
      have t1n : decide (p ≤ 1048576) = true := decide_eq_true hc1
      have t2 : decide ((pp : Int) ≤ (m : Int)) = false := decide_eq_false (by omega)
      have t2n : decide (pp ≤ m) = false := decide_eq_false (by omega)
      have HC := Lib.hid hc
      clear hc hc1
      go_wp2_with fail
      refine (IsB (m : Int) _ (hl.out.below EL.out.bel) (by omega) HI.out).mono ?_
      rintro e w1 ⟨rfl, hb⟩
      have E1 : Hid (Env D w (sg) [] w1) := Lib.hid (EL.out.below hb)
      clear EL hb
      have HD : Hid (o ++ [m] = (Pri.facs 2 N).1 ++ [(Pri.facs 2 N).2]) := Lib.hid (by rw [HO.out, HZ.out])
      have E2 : Hid (Env D w ((w1.heap.size, 3, [.int .i64 (m : Int)]) :: sg) [] _) := Lib.hid ((E1.out.push 3 [.int .i64 (m : Int)] (w1.heap.size) (by simp)))
      go_wp2_with (at_builtin; refine wpl_app1 (c := 1) tiI rfl _ _ rfl E2.out (A := [(w1.heap.size, 3, [.int .i64 (m : Int)])]) (sg := sg) (B' := []) (F := ((w1.heap.size, 3, [.int .i64 (m : Int)]) :: sg)) (by simp) (hO.out.os rfl) rfl rfl (SrcN.int (E2.out.bx 0 rfl)) HOL.out ?_)
      intro zg zp zc w2 zH zT zE
      have zO := Lib.hid (OI.app (x := ((m : Nat) : Int)) (g' := zg) (cs' := zc) (cap' := zp) hO.out rfl (by simpa using zH.out) (by simpa using zT.out))
      have E3 : Hid (Env D w ((w1.heap.size, 3, [.int .i64 (m : Int)]) :: [(zg, 3, zc)]) [] w2) := Lib.hid (zE.out.cast (by simp))
      clear E1 E2 zE zH zT hO
      have OZ := Lib.hid (OI.snoc (x := m) zO.out)
      have hres := Lib.hid (OZ.out.rwN E3.out (by intro p hp; simp at hp ⊢; simp [hp]))
      have hbel := Lib.hid E3.out.bel
      go_wp2
      go_ret2
      refine ⟨⟨some ⟨zg, 0, none⟩, zp, ?_, Lib.hid (hres.out.eqN HD.out)⟩, hbel.out⟩
      rw [← HD.out]; simp [nl_len]
    · have t1 : decide ((p : Int) ≤ 1048576) = false := decide_eq_false (by omega)
      have t1n : decide (p ≤ 1048576) = false := decide_eq_false hc1
      have HC := Lib.hid hc
      clear hc hc1
      go_wp2_with fail
      refine (IsB (m : Int) _ (hl.out.below EL.out.bel) (by omega) HI.out).mono ?_
      rintro e w1 ⟨rfl, hb⟩
      have E1 : Hid (Env D w (sg) [] w1) := Lib.hid (EL.out.below hb)
      clear EL hb
      have HD : Hid (o ++ [m] = (Pri.facs 2 N).1 ++ [(Pri.facs 2 N).2]) := Lib.hid (by rw [HO.out, HZ.out])
      have E2 : Hid (Env D w ((w1.heap.size, 3, [.int .i64 (m : Int)]) :: sg) [] _) := Lib.hid ((E1.out.push 3 [.int .i64 (m : Int)] (w1.heap.size) (by simp)))
      go_wp2_with (at_builtin; refine wpl_app1 (c := 1) tiI rfl _ _ rfl E2.out (A := [(w1.heap.size, 3, [.int .i64 (m : Int)])]) (sg := sg) (B' := []) (F := ((w1.heap.size, 3, [.int .i64 (m : Int)]) :: sg)) (by simp) (hO.out.os rfl) rfl rfl (SrcN.int (E2.out.bx 0 rfl)) HOL.out ?_)
      intro zg zp zc w2 zH zT zE
      have zO := Lib.hid (OI.app (x := ((m : Nat) : Int)) (g' := zg) (cs' := zc) (cap' := zp) hO.out rfl (by simpa using zH.out) (by simpa using zT.out))
      have E3 : Hid (Env D w ((w1.heap.size, 3, [.int .i64 (m : Int)]) :: [(zg, 3, zc)]) [] w2) := Lib.hid (zE.out.cast (by simp))
      clear E1 E2 zE zH zT hO
      have OZ := Lib.hid (OI.snoc (x := m) zO.out)
      have hres := Lib.hid (OZ.out.rwN E3.out (by intro p hp; simp at hp ⊢; simp [hp]))
      have hbel := Lib.hid E3.out.bel
      go_wp2
      go_ret2
      refine ⟨⟨some ⟨zg, 0, none⟩, zp, ?_, Lib.hid (hres.out.eqN HD.out)⟩, hbel.out⟩
      rw [← HD.out]; simp [nl_len]
set_option maxRecDepth 100000 in
set_option maxHeartbeats 2000000 in
theorem Fac_none {D : Nat → Prop} (N : Nat) {w : World}  (hl0 : Laid w) (h0 : 1 ≤ (N : Int)) (hT : (N : Int) ≤ 2305843009213693951) (hz0 : ¬ (Pri.facs 2 N).2 = 1) (hp0 : Pri.isP (Pri.facs 2 N).2 = false) :
    Calls Tryd.prog 49 #[.int .i64 (N : Nat)] w fun e w' => e = .returned (.tuple #[.slice none 0 0, .int .i64 9]) ∧ Below w.heap.size w w' := by
  have E0 : Hid (Env D w [] [] w) := Lib.hid (Env.start D w)
  go_enter Tryd.func49, Tryd.ntmps49
  have hz := Lib.hid hz0
  clear hz0
  have hp := Lib.hid hp0
  clear hp0
  have hl := Lib.hid hl0
  clear hl0
  have hst := Pri.Fac.start (N := N) (by omega)
  have HST := Lib.hid hst
  clear hst
  have d1 : decide ((N : Int) < 1) = false := decide_eq_false (by omega)
  have d2 : decide ((2305843009213693952 : Int) ≤ (N : Int)) = false := decide_eq_false (by omega)
  have d3 : decide (N < 1) = false := decide_eq_false (by omega)
  have d3b : decide (2305843009213693952 ≤ N) = false := decide_eq_false (by omega)
  have HN := Lib.hid h0
  have HT := Lib.hid hT
  go_wp2_with fail
  go_loopg [5, 0, 4] (1048576) (fun gk s5 s0 s4 wr => ∃ (p m : Nat) (sg : List Bx) (cs : List Value) (va : Option Addr) (vk : Nat) (o : List Nat), s5 = .int .i64 (p : Int) ∧ s0 = .int .i64 (m : Int) ∧ s4 = .slice va (nl o).length vk ∧ Hid (Env D w (sg) [] wr) ∧ Hid (OI sg cs (.slice va (nl o).length vk) (nl o)) ∧ Hid ((2 ≤ p ∧ p ≤ 1048578 ∧ gk = 1048578 - p) ∧ (p = 2 ∨ p % 2 = 1 ∧ m % 2 = 1) ∧ Pri.Fac N p m o))
  case atStart => exact ⟨2, N, [], [], none, 0, [], rfl, rfl, rfl, Lib.hid (E0.out.cast (by simp)), Lib.hid OI.nlnil, Lib.hid ⟨⟨by omega, by omega, rfl⟩, .inl rfl, HST.out⟩⟩
  case round =>
    clear E0
    obtain ⟨p, m, sg, cs, va, vk, o, rfl, rfl, rfl, EL, hO, HA⟩ := hrel
    clear d1 d2 d3 d3b
    clear h0 hT
    obtain ⟨⟨a1, a2, a4⟩, a5, a6⟩ := HA.out
    have HF := Lib.hid a6
    have HP := Lib.hid a5
    have hm1 := a6.2.2.1
    have hm2 : (m : Int) ≤ 2305843009213693951 := by have := a6.2.2.2; have := HT.out; omega
    clear a5 a6 HA HST
    obtain ⟨pp, hpp⟩ : ∃ pp, pp = p * p := ⟨_, rfl⟩
    have hpb : (pp : Int) ≤ 1099515822084 := by have : p * p ≤ 1048578 * 1048578 := Nat.mul_le_mul a2 a2; omega
    have e2 : (p : Int) * (p : Int) = (pp : Int) := by rw [hpp]; rfl
    have e1 : wrap64 ((p : Int) * (p : Int)) = (pp : Int) := by rw [e2, IntWalk.wrap64_in _ (by omega)]
    have HPP := Lib.hid hpp
    clear hpp
    have hp9 : (p : Int) ≤ 1048578 := by omega
    by_cases hc : p ≤ 1048576 ∧ pp ≤ m
    · have t1 : decide ((p : Int) ≤ 1048576) = true := decide_eq_true (by omega)
      have t1n : decide (p ≤ 1048576) = true := decide_eq_true hc.1
      have t2 : decide ((pp : Int) ≤ (m : Int)) = true := decide_eq_true (by omega)
      have t2n : decide (pp ≤ m) = true := decide_eq_true hc.2
      have HPL := Lib.hid (HF.out.go hc.1 (by rw [← HPP.out]; exact hc.2))
      have hp8 := hc.1
      clear hc HF
      go_wp2_with fail
      go_loopg [0, 4] (m) (fun gk s0 s4 wr => ∃ (n : Nat) (sgi : List Bx) (csi : List Value) (vai : Option Addr) (vki : Nat) (oi : List Nat), s0 = .int .i64 (n : Int) ∧ s4 = .slice vai (nl oi).length vki ∧ Hid (Env D w (sgi) [] wr) ∧ Hid (OI sgi csi (.slice vai (nl oi).length vki) (nl oi)) ∧ Hid (gk = n ∧ (p = 2 ∨ p % 2 = 1 ∧ n % 2 = 1) ∧ Pri.Pul N p n oi))
      case atStart => exact ⟨m, sg, cs, va, vk, o, rfl, rfl, Lib.hid (EL.out.cast (by simp)), Lib.hid hO.out, Lib.hid ⟨rfl, HP.out, HPL.out⟩⟩
      case round =>
        clear EL
        obtain ⟨n, sgi, csi, vai, vki, oi, rfl, rfl, EL, hOi, HA⟩ := hrel
        clear t1 t1n t2 t2n e1 e2 hpb
        obtain ⟨b1, b2, b3⟩ := HA.out
        have HQ := Lib.hid b3
        have HP2 := Lib.hid b2
        have hn1 := b3.2.2.1
        have hn2 : (n : Int) ≤ 2305843009213693951 := by have := b3.2.2.2; have := HT.out; omega
        clear b2 b3 HA HPL HP
        have hpz : ((p : Int) == 0) = false := beq_eq_false_iff_ne.2 (by omega)
        have hol : (nl oi).length + 1 ≤ 1000000 := by rw [nl_len]; have := HQ.out.len (by have := HN.out; omega) (by have := HT.out; omega); omega
        have HOL := Lib.hid hol
        clear hol
        by_cases hd : n % p = 0
        · have t3 : ((n : Int) % (p : Int) == 0) = true := by rw [beq_iff_eq, ← Int.natCast_emod, hd]; rfl
          obtain ⟨d, hdd⟩ : ∃ d, d = n / p := ⟨_, rfl⟩
          have e4 : (n : Int) / (p : Int) = (d : Int) := by rw [hdd]; rfl
          have hlt : d < n := by rw [hdd]; exact Nat.div_lt_self hn1 (by omega)
          have HS := Lib.hid (HQ.out.step (by omega) hd)
          have HP3 : Hid (p = 2 ∨ p % 2 = 1 ∧ d % 2 = 1) := Lib.hid (by rcases HP2.out with h | h; (· exact .inl h); exact .inr ⟨h.1, by rw [hdd]; exact Pri.div_odd hd h.2⟩)
          rw [← hdd] at HS
          clear hdd hd HQ HP2
          have E1 : Hid (Env D w ((wr.heap.size, 3, [.int .i64 (p : Int)]) :: sgi) [] _) := Lib.hid ((EL.out.push 3 [.int .i64 (p : Int)] (wr.heap.size) (by simp)))
          go_wp2_with (at_builtin; refine wpl_app1 (c := 1) tiI rfl _ _ rfl E1.out (A := [(wr.heap.size, 3, [.int .i64 (p : Int)])]) (sg := sgi) (B' := []) (F := ((wr.heap.size, 3, [.int .i64 (p : Int)]) :: sgi)) (by simp) (hOi.out.os rfl) rfl rfl (SrcN.int (E1.out.bx 0 rfl)) HOL.out ?_)
          intro zg zp zc w1 zH zT zE
          have zO := Lib.hid (OI.app (x := ((p : Nat) : Int)) (g' := zg) (cs' := zc) (cap' := zp) hOi.out rfl (by simpa using zH.out) (by simpa using zT.out))
          have E2 : Hid (Env D w ((wr.heap.size, 3, [.int .i64 (p : Int)]) :: [(zg, 3, zc)]) [] w1) := Lib.hid (zE.out.cast (by simp))
          clear EL E1 zE zH zT hOi
          have EZ := Lib.hid (E2.out.drop)
          have OZ := Lib.hid (OI.snoc (x := p) zO.out)
          go_wp2
          go_roundg (d)
          case rel => exact ⟨d, [(zg, 3, zc)], zc, some ⟨zg, 0, none⟩, zp, (oi ++ [p]), rfl, OI.v, EZ, OZ, Lib.hid ⟨rfl, HP3.out, HS.out⟩⟩
          case measure => exact by omega
        have t3 : ((n : Int) % (p : Int) == 0) = false := by rw [beq_eq_false_iff_ne, ← Int.natCast_emod]; exact fun h => hd (by omega)
        have HS := Lib.hid (HQ.out.stop hd)
        have hodd : n % 2 = 1 := by rcases HP2.out with h | h; (· rw [h] at hd; omega); exact h.2
        have HO := Lib.hid hodd
        clear hodd
        obtain ⟨b, hb⟩ : ∃ b, b = p % 2 := ⟨_, rfl⟩
        have hb1 : (b : Int) ≤ 1 := by omega
        have e5 : bits .and .i64 (p : Int) 1 = (b : Int) := by rw [and_one_i64 p (by omega), hb]
        obtain ⟨p2, hp2⟩ : ∃ p2, p2 = p + 1 + b := ⟨_, rfl⟩
        have e6 : (p : Int) + (1 + (b : Int)) = (p2 : Int) := by omega
        have HS2 : Hid (Pri.Fac N p2 n oi) := Lib.hid (by rcases HP2.out with h | h; (· rw [hp2, hb, h]; rw [h] at HS; exact HS.out); rw [hp2, hb, h.1]; exact HS.out.skip h.2 h.1)
        have hpo : p2 % 2 = 1 := by rcases HP2.out with h | h; (· subst h; omega); omega
        have HPO := Lib.hid hpo
        have hp7 : p < p2 ∧ p2 ≤ 1048578 := by omega
        have HX := Lib.hid hd
        clear hpo hb hd HS HP2 HQ hp2
        have EZ := Lib.hid EL.out
        go_wp2
        go_roundg (1048578 - p2)
        case rel => exact ⟨p2, n, sgi, csi, vai, vki, oi, rfl, rfl, rfl, EZ, hOi, Lib.hid ⟨⟨by omega, by omega, rfl⟩, .inr ⟨HPO.out, HO.out⟩, HS2.out⟩⟩
        case measure => exact by omega
    have hd := HF.out.done (by rw [← HPP.out]; exact hc)
    obtain ⟨ho9, hm9⟩ := hd
    have HO := Lib.hid ho9
    have hol : (nl o).length + 1 ≤ 1000000 := by rw [nl_len]; have := HF.out.len (by have := HN.out; omega) (by have := HT.out; omega); omega
    have HOL := Lib.hid hol
    clear hol ho9 HF HP
    have HZ : Hid (m = (Pri.facs 2 N).2) := Lib.hid hm9
    clear hm9
    have hm5 : ¬ m = 1 := by rw [HZ.out]; exact hz.out
    have t5 : ((m : Int) == 1) = false := by rw [beq_eq_false_iff_ne]; omega
    have t5n : (m == 1) = false := by rw [beq_eq_false_iff_ne]; omega
    clear hm5
    have HI : Hid (Pri.isP ((m : Int).toNat) = false) := Lib.hid (by rw [Int.toNat_natCast, HZ.out]; exact hp.out)
    by_cases hc1 : p ≤ 1048576
    · have t1 : decide ((p : Int) ≤ 1048576) = true := decide_eq_true (by omega)
      have t1n : decide (p ≤ 1048576) = true := decide_eq_true hc1
      have t2 : decide ((pp : Int) ≤ (m : Int)) = false := decide_eq_false (by omega)
      have t2n : decide (pp ≤ m) = false := decide_eq_false (by omega)
      have HC := Lib.hid hc
      clear hc hc1
      go_wp2_with fail
      refine (IsB (m : Int) _ (hl.out.below EL.out.bel) (by omega) HI.out).mono ?_
      rintro e w1 ⟨rfl, hb⟩
      have E1 : Hid (Env D w (sg) [] w1) := Lib.hid (EL.out.below hb)
      clear EL hb
      have hfin := Lib.hid E1.out.bel
      go_wp2
      go_ret2
      exact ⟨rfl, hfin.out⟩
    · have t1 : decide ((p : Int) ≤ 1048576) = false := decide_eq_false (by omega)
      have t1n : decide (p ≤ 1048576) = false := decide_eq_false hc1
      have HC := Lib.hid hc
      clear hc hc1
      go_wp2_with fail
      refine (IsB (m : Int) _ (hl.out.below EL.out.bel) (by omega) HI.out).mono ?_
      rintro e w1 ⟨rfl, hb⟩
      have E1 : Hid (Env D w (sg) [] w1) := Lib.hid (EL.out.below hb)
      clear EL hb
      have hfin := Lib.hid E1.out.bel
      go_wp2
      go_ret2
      exact ⟨rfl, hfin.out⟩
set_option maxRecDepth 100000 in
set_option maxHeartbeats 2000000 in
theorem rFac_one {D : Nat → Prop} (N : Nat) {w : World}  (h0 : 1 ≤ (N : Int)) (hT : (N : Int) ≤ 2305843009213693951) (hz0 : (Pri.facs 2 N).2 = 1) :
    Calls Tryd.prog 50 #[.int .i64 (N : Nat)] w fun e w' => RetIB (fun b => w.heap.size ≤ b) (Pri.facs 2 N).1 true e w' ∧ Below w.heap.size w w' := by
  have E0 : Hid (Env D w [] [] w) := Lib.hid (Env.start D w)
  go_enter Tryd.func50, Tryd.ntmps50
  have hz := Lib.hid hz0
  clear hz0
  have hst := Pri.Fac.start (N := N) (by omega)
  have HST := Lib.hid hst
  clear hst
  have HN := Lib.hid h0
  have HT := Lib.hid hT
  go_wp2_with fail
  go_loopg [5, 0, 4] (1048576) (fun gk s5 s0 s4 wr => ∃ (p m : Nat) (sg : List Bx) (cs : List Value) (va : Option Addr) (vk : Nat) (o : List Nat), s5 = .int .i64 (p : Int) ∧ s0 = .int .i64 (m : Int) ∧ s4 = .slice va (nl o).length vk ∧ Hid (Env D w (sg) [] wr) ∧ Hid (OI sg cs (.slice va (nl o).length vk) (nl o)) ∧ Hid ((2 ≤ p ∧ p ≤ 1048578 ∧ gk = 1048578 - p) ∧ True ∧ Pri.Fac N p m o))
  case atStart => exact ⟨2, N, [], [], none, 0, [], rfl, rfl, rfl, Lib.hid (E0.out.cast (by simp)), Lib.hid OI.nlnil, Lib.hid ⟨⟨by omega, by omega, rfl⟩, trivial, HST.out⟩⟩
  case round =>
    clear E0
    obtain ⟨p, m, sg, cs, va, vk, o, rfl, rfl, rfl, EL, hO, HA⟩ := hrel
    clear h0 hT
    obtain ⟨⟨a1, a2, a4⟩, a5, a6⟩ := HA.out
    have HF := Lib.hid a6
    have HP := Lib.hid a5
    have hm1 := a6.2.2.1
    have hm2 : (m : Int) ≤ 2305843009213693951 := by have := a6.2.2.2; have := HT.out; omega
    clear a5 a6 HA HST
    obtain ⟨pp, hpp⟩ : ∃ pp, pp = p * p := ⟨_, rfl⟩
    have hpb : (pp : Int) ≤ 1099515822084 := by have : p * p ≤ 1048578 * 1048578 := Nat.mul_le_mul a2 a2; omega
    have e2 : (p : Int) * (p : Int) = (pp : Int) := by rw [hpp]; rfl
    have e1 : wrap64 ((p : Int) * (p : Int)) = (pp : Int) := by rw [e2, IntWalk.wrap64_in _ (by omega)]
    have HPP := Lib.hid hpp
    clear hpp
    have hp9 : (p : Int) ≤ 1048578 := by omega
    by_cases hc : p ≤ 1048576 ∧ pp ≤ m
    · have t1 : decide ((p : Int) ≤ 1048576) = true := decide_eq_true (by omega)
      have t1n : decide (p ≤ 1048576) = true := decide_eq_true hc.1
      have t2 : decide ((pp : Int) ≤ (m : Int)) = true := decide_eq_true (by omega)
      have t2n : decide (pp ≤ m) = true := decide_eq_true hc.2
      have HPL := Lib.hid (HF.out.go hc.1 (by rw [← HPP.out]; exact hc.2))
      have hp8 := hc.1
      clear hc HF
      go_wp2_with fail
      go_loopg [0, 4] (m) (fun gk s0 s4 wr => ∃ (n : Nat) (sgi : List Bx) (csi : List Value) (vai : Option Addr) (vki : Nat) (oi : List Nat), s0 = .int .i64 (n : Int) ∧ s4 = .slice vai (nl oi).length vki ∧ Hid (Env D w (sgi) [] wr) ∧ Hid (OI sgi csi (.slice vai (nl oi).length vki) (nl oi)) ∧ Hid (gk = n ∧ True ∧ Pri.Pul N p n oi))
      case atStart => exact ⟨m, sg, cs, va, vk, o, rfl, rfl, Lib.hid (EL.out.cast (by simp)), Lib.hid hO.out, Lib.hid ⟨rfl, HP.out, HPL.out⟩⟩
      case round =>
        clear EL
        obtain ⟨n, sgi, csi, vai, vki, oi, rfl, rfl, EL, hOi, HA⟩ := hrel
        clear t1 t1n t2 t2n e1 e2 hpb
        obtain ⟨b1, b2, b3⟩ := HA.out
        have HQ := Lib.hid b3
        have HP2 := Lib.hid b2
        have hn1 := b3.2.2.1
        have hn2 : (n : Int) ≤ 2305843009213693951 := by have := b3.2.2.2; have := HT.out; omega
        clear b2 b3 HA HPL HP
        have hpz : ((p : Int) == 0) = false := beq_eq_false_iff_ne.2 (by omega)
        have hol : (nl oi).length + 1 ≤ 1000000 := by rw [nl_len]; have := HQ.out.len (by have := HN.out; omega) (by have := HT.out; omega); omega
        have HOL := Lib.hid hol
        clear hol
        by_cases hd : n % p = 0
        · have t3 : ((n : Int) % (p : Int) == 0) = true := by rw [beq_iff_eq, ← Int.natCast_emod, hd]; rfl
          obtain ⟨d, hdd⟩ : ∃ d, d = n / p := ⟨_, rfl⟩
          have e4 : (n : Int) / (p : Int) = (d : Int) := by rw [hdd]; rfl
          have hlt : d < n := by rw [hdd]; exact Nat.div_lt_self hn1 (by omega)
          have HS := Lib.hid (HQ.out.step (by omega) hd)
          have HP3 : Hid True := Lib.hid trivial
          rw [← hdd] at HS
          clear hdd hd HQ HP2
          have E1 : Hid (Env D w ((wr.heap.size, 3, [.int .i64 (p : Int)]) :: sgi) [] _) := Lib.hid ((EL.out.push 3 [.int .i64 (p : Int)] (wr.heap.size) (by simp)))
          go_wp2_with (at_builtin; refine wpl_app1 (c := 1) tiI rfl _ _ rfl E1.out (A := [(wr.heap.size, 3, [.int .i64 (p : Int)])]) (sg := sgi) (B' := []) (F := ((wr.heap.size, 3, [.int .i64 (p : Int)]) :: sgi)) (by simp) (hOi.out.os rfl) rfl rfl (SrcN.int (E1.out.bx 0 rfl)) HOL.out ?_)
          intro zg zp zc w1 zH zT zE
          have zO := Lib.hid (OI.app (x := ((p : Nat) : Int)) (g' := zg) (cs' := zc) (cap' := zp) hOi.out rfl (by simpa using zH.out) (by simpa using zT.out))
          have E2 : Hid (Env D w ((wr.heap.size, 3, [.int .i64 (p : Int)]) :: [(zg, 3, zc)]) [] w1) := Lib.hid (zE.out.cast (by simp))
          clear EL E1 zE zH zT hOi
          have EZ := Lib.hid (E2.out.drop)
          have OZ := Lib.hid (OI.snoc (x := p) zO.out)
          go_wp2
          go_roundg (d)
          case rel => exact ⟨d, [(zg, 3, zc)], zc, some ⟨zg, 0, none⟩, zp, (oi ++ [p]), rfl, OI.v, EZ, OZ, Lib.hid ⟨rfl, HP3.out, HS.out⟩⟩
          case measure => exact by omega
        have t3 : ((n : Int) % (p : Int) == 0) = false := by rw [beq_eq_false_iff_ne, ← Int.natCast_emod]; exact fun h => hd (by omega)
        have HS := Lib.hid (HQ.out.stop hd)
        have HX := Lib.hid hd
        clear hd HP2 HQ
        have EZ := Lib.hid EL.out
        go_wp2
        go_roundg (1048578 - (p + 1))
        case rel => exact ⟨p + 1, n, sgi, csi, vai, vki, oi, rfl, rfl, rfl, EZ, hOi, Lib.hid ⟨⟨by omega, by omega, rfl⟩, trivial, HS.out⟩⟩
        case measure => exact by omega
    have hd := HF.out.done (by rw [← HPP.out]; exact hc)
    obtain ⟨ho9, hm9⟩ := hd
    have HO := Lib.hid ho9
    have hol : (nl o).length + 1 ≤ 1000000 := by rw [nl_len]; have := HF.out.len (by have := HN.out; omega) (by have := HT.out; omega); omega
    have HOL := Lib.hid hol
    clear hol ho9 HF HP
    have HZ : Hid (m = (Pri.facs 2 N).2) := Lib.hid hm9
    clear hm9
    have hm5 : m = 1 := by rw [HZ.out]; exact hz.out
    have t5 : ((m : Int) == 1) = true := by rw [beq_iff_eq]; omega
    have t5n : (m == 1) = true := by rw [beq_iff_eq]; omega
    clear hm5
    by_cases hc1 : p ≤ 1048576
    · have t1 : decide ((p : Int) ≤ 1048576) = true := decide_eq_true (by omega)
      have t1n : decide (p ≤ 1048576) = true := decide_eq_true hc1
      have t2 : decide ((pp : Int) ≤ (m : Int)) = false := decide_eq_false (by omega)
      have t2n : decide (pp ≤ m) = false := decide_eq_false (by omega)
      have HC := Lib.hid hc
      clear hc hc1
      have HD : Hid (o = (Pri.facs 2 N).1) := HO
      have hres := Lib.hid (hO.out.rwN EL.out (by intro p hp; exact hp))
      have hbel := Lib.hid EL.out.bel
      go_wp2
      go_ret2
      refine ⟨⟨va, vk, ?_, Lib.hid (hres.out.eqN HD.out)⟩, hbel.out⟩
      rw [← HD.out]; simp [nl_len]
    · have t1 : decide ((p : Int) ≤ 1048576) = false := decide_eq_false (by omega)
      have t1n : decide (p ≤ 1048576) = false := decide_eq_false hc1
      have HC := Lib.hid hc
      clear hc hc1
      have HD : Hid (o = (Pri.facs 2 N).1) := HO
      have hres := Lib.hid (hO.out.rwN EL.out (by intro p hp; exact hp))
      have hbel := Lib.hid EL.out.bel
      go_wp2
      go_ret2
      refine ⟨⟨va, vk, ?_, Lib.hid (hres.out.eqN HD.out)⟩, hbel.out⟩
      rw [← HD.out]; simp [nl_len]
set_option maxRecDepth 100000 in
set_option maxHeartbeats 2000000 in
theorem rFac_more {D : Nat → Prop} (N : Nat) {w : World}  (h0 : 1 ≤ (N : Int)) (hT : (N : Int) ≤ 2305843009213693951) (hz0 : ¬ (Pri.facs 2 N).2 = 1) (hp0 : Pri.isP (Pri.facs 2 N).2 = true) :
    Calls Tryd.prog 50 #[.int .i64 (N : Nat)] w fun e w' => RetIB (fun b => w.heap.size ≤ b) ((Pri.facs 2 N).1 ++ [(Pri.facs 2 N).2]) true e w' ∧ Below w.heap.size w w' := by
  have E0 : Hid (Env D w [] [] w) := Lib.hid (Env.start D w)
  go_enter Tryd.func50, Tryd.ntmps50
  have hz := Lib.hid hz0
  clear hz0
  have hp := Lib.hid hp0
  clear hp0
  have hst := Pri.Fac.start (N := N) (by omega)
  have HST := Lib.hid hst
  clear hst
  have HN := Lib.hid h0
  have HT := Lib.hid hT
  go_wp2_with fail
  go_loopg [5, 0, 4] (1048576) (fun gk s5 s0 s4 wr => ∃ (p m : Nat) (sg : List Bx) (cs : List Value) (va : Option Addr) (vk : Nat) (o : List Nat), s5 = .int .i64 (p : Int) ∧ s0 = .int .i64 (m : Int) ∧ s4 = .slice va (nl o).length vk ∧ Hid (Env D w (sg) [] wr) ∧ Hid (OI sg cs (.slice va (nl o).length vk) (nl o)) ∧ Hid ((2 ≤ p ∧ p ≤ 1048578 ∧ gk = 1048578 - p) ∧ True ∧ Pri.Fac N p m o))
  case atStart => exact ⟨2, N, [], [], none, 0, [], rfl, rfl, rfl, Lib.hid (E0.out.cast (by simp)), Lib.hid OI.nlnil, Lib.hid ⟨⟨by omega, by omega, rfl⟩, trivial, HST.out⟩⟩
  case round =>
    clear E0
    obtain ⟨p, m, sg, cs, va, vk, o, rfl, rfl, rfl, EL, hO, HA⟩ := hrel
    clear h0 hT
    obtain ⟨⟨a1, a2, a4⟩, a5, a6⟩ := HA.out
    have HF := Lib.hid a6
    have HP := Lib.hid a5
    have hm1 := a6.2.2.1
    have hm2 : (m : Int) ≤ 2305843009213693951 := by have := a6.2.2.2; have := HT.out; omega
    clear a5 a6 HA HST
    obtain ⟨pp, hpp⟩ : ∃ pp, pp = p * p := ⟨_, rfl⟩
    have hpb : (pp : Int) ≤ 1099515822084 := by have : p * p ≤ 1048578 * 1048578 := Nat.mul_le_mul a2 a2; omega
    have e2 : (p : Int) * (p : Int) = (pp : Int) := by rw [hpp]; rfl
    have e1 : wrap64 ((p : Int) * (p : Int)) = (pp : Int) := by rw [e2, IntWalk.wrap64_in _ (by omega)]
    have HPP := Lib.hid hpp
    clear hpp
    have hp9 : (p : Int) ≤ 1048578 := by omega
    by_cases hc : p ≤ 1048576 ∧ pp ≤ m
    · have t1 : decide ((p : Int) ≤ 1048576) = true := decide_eq_true (by omega)
      have t1n : decide (p ≤ 1048576) = true := decide_eq_true hc.1
      have t2 : decide ((pp : Int) ≤ (m : Int)) = true := decide_eq_true (by omega)
      have t2n : decide (pp ≤ m) = true := decide_eq_true hc.2
      have HPL := Lib.hid (HF.out.go hc.1 (by rw [← HPP.out]; exact hc.2))
      have hp8 := hc.1
      clear hc HF
      go_wp2_with fail
      go_loopg [0, 4] (m) (fun gk s0 s4 wr => ∃ (n : Nat) (sgi : List Bx) (csi : List Value) (vai : Option Addr) (vki : Nat) (oi : List Nat), s0 = .int .i64 (n : Int) ∧ s4 = .slice vai (nl oi).length vki ∧ Hid (Env D w (sgi) [] wr) ∧ Hid (OI sgi csi (.slice vai (nl oi).length vki) (nl oi)) ∧ Hid (gk = n ∧ True ∧ Pri.Pul N p n oi))
      case atStart => exact ⟨m, sg, cs, va, vk, o, rfl, rfl, Lib.hid (EL.out.cast (by simp)), Lib.hid hO.out, Lib.hid ⟨rfl, HP.out, HPL.out⟩⟩
      case round =>
        clear EL
        obtain ⟨n, sgi, csi, vai, vki, oi, rfl, rfl, EL, hOi, HA⟩ := hrel
        clear t1 t1n t2 t2n e1 e2 hpb
        obtain ⟨b1, b2, b3⟩ := HA.out
        have HQ := Lib.hid b3
        have HP2 := Lib.hid b2
        have hn1 := b3.2.2.1
        have hn2 : (n : Int) ≤ 2305843009213693951 := by have := b3.2.2.2; have := HT.out; omega
        clear b2 b3 HA HPL HP
        have hpz : ((p : Int) == 0) = false := beq_eq_false_iff_ne.2 (by omega)
        have hol : (nl oi).length + 1 ≤ 1000000 := by rw [nl_len]; have := HQ.out.len (by have := HN.out; omega) (by have := HT.out; omega); omega
        have HOL := Lib.hid hol
        clear hol
        by_cases hd : n % p = 0
        · have t3 : ((n : Int) % (p : Int) == 0) = true := by rw [beq_iff_eq, ← Int.natCast_emod, hd]; rfl
          obtain ⟨d, hdd⟩ : ∃ d, d = n / p := ⟨_, rfl⟩
          have e4 : (n : Int) / (p : Int) = (d : Int) := by rw [hdd]; rfl
          have hlt : d < n := by rw [hdd]; exact Nat.div_lt_self hn1 (by omega)
          have HS := Lib.hid (HQ.out.step (by omega) hd)
          have HP3 : Hid True := Lib.hid trivial
          rw [← hdd] at HS
          clear hdd hd HQ HP2
          have E1 : Hid (Env D w ((wr.heap.size, 3, [.int .i64 (p : Int)]) :: sgi) [] _) := Lib.hid ((EL.out.push 3 [.int .i64 (p : Int)] (wr.heap.size) (by simp)))
          go_wp2_with (at_builtin; refine wpl_app1 (c := 1) tiI rfl _ _ rfl E1.out (A := [(wr.heap.size, 3, [.int .i64 (p : Int)])]) (sg := sgi) (B' := []) (F := ((wr.heap.size, 3, [.int .i64 (p : Int)]) :: sgi)) (by simp) (hOi.out.os rfl) rfl rfl (SrcN.int (E1.out.bx 0 rfl)) HOL.out ?_)
          intro zg zp zc w1 zH zT zE
          have zO := Lib.hid (OI.app (x := ((p : Nat) : Int)) (g' := zg) (cs' := zc) (cap' := zp) hOi.out rfl (by simpa using zH.out) (by simpa using zT.out))
          have E2 : Hid (Env D w ((wr.heap.size, 3, [.int .i64 (p : Int)]) :: [(zg, 3, zc)]) [] w1) := Lib.hid (zE.out.cast (by simp))
          clear EL E1 zE zH zT hOi
          have EZ := Lib.hid (E2.out.drop)
          have OZ := Lib.hid (OI.snoc (x := p) zO.out)
          go_wp2
          go_roundg (d)
          case rel => exact ⟨d, [(zg, 3, zc)], zc, some ⟨zg, 0, none⟩, zp, (oi ++ [p]), rfl, OI.v, EZ, OZ, Lib.hid ⟨rfl, HP3.out, HS.out⟩⟩
          case measure => exact by omega
        have t3 : ((n : Int) % (p : Int) == 0) = false := by rw [beq_eq_false_iff_ne, ← Int.natCast_emod]; exact fun h => hd (by omega)
        have HS := Lib.hid (HQ.out.stop hd)
        have HX := Lib.hid hd
        clear hd HP2 HQ
        have EZ := Lib.hid EL.out
        go_wp2
        go_roundg (1048578 - (p + 1))
        case rel => exact ⟨p + 1, n, sgi, csi, vai, vki, oi, rfl, rfl, rfl, EZ, hOi, Lib.hid ⟨⟨by omega, by omega, rfl⟩, trivial, HS.out⟩⟩
        case measure => exact by omega
    have hd := HF.out.done (by rw [← HPP.out]; exact hc)
    obtain ⟨ho9, hm9⟩ := hd
    have HO := Lib.hid ho9
    have hol : (nl o).length + 1 ≤ 1000000 := by rw [nl_len]; have := HF.out.len (by have := HN.out; omega) (by have := HT.out; omega); omega
    have HOL := Lib.hid hol
    clear hol ho9 HF HP
    have HZ : Hid (m = (Pri.facs 2 N).2) := Lib.hid hm9
    clear hm9
    have hm5 : ¬ m = 1 := by rw [HZ.out]; exact hz.out
    have t5 : ((m : Int) == 1) = false := by rw [beq_eq_false_iff_ne]; omega
    have t5n : (m == 1) = false := by rw [beq_eq_false_iff_ne]; omega
    clear hm5
    have HI : Hid (Pri.isP ((m : Int).toNat) = true) := Lib.hid (by rw [Int.toNat_natCast, HZ.out]; exact hp.out)
    by_cases hc1 : p ≤ 1048576
    · have t1 : decide ((p : Int) ≤ 1048576) = true := decide_eq_true (by omega)
      have t1n : decide (p ≤ 1048576) = true := decide_eq_true hc1
      have t2 : decide ((pp : Int) ≤ (m : Int)) = false := decide_eq_false (by omega)
      have t2n : decide (pp ≤ m) = false := decide_eq_false (by omega)
      have HC := Lib.hid hc
      clear hc hc1
      go_wp2_with fail
      refine (rIsB (m : Int) _ (by omega) HI.out).mono ?_
      rintro e w1 ⟨rfl, hb⟩
      have E1 : Hid (Env D w (sg) [] w1) := Lib.hid (EL.out.below hb)
      clear EL hb
      have HD : Hid (o ++ [m] = (Pri.facs 2 N).1 ++ [(Pri.facs 2 N).2]) := Lib.hid (by rw [HO.out, HZ.out])
      have E2 : Hid (Env D w ((w1.heap.size, 3, [.int .i64 (m : Int)]) :: sg) [] _) := Lib.hid ((E1.out.push 3 [.int .i64 (m : Int)] (w1.heap.size) (by simp)))
      go_wp2_with (at_builtin; refine wpl_app1 (c := 1) tiI rfl _ _ rfl E2.out (A := [(w1.heap.size, 3, [.int .i64 (m : Int)])]) (sg := sg) (B' := []) (F := ((w1.heap.size, 3, [.int .i64 (m : Int)]) :: sg)) (by simp) (hO.out.os rfl) rfl rfl (SrcN.int (E2.out.bx 0 rfl)) HOL.out ?_)
      intro zg zp zc w2 zH zT zE
      have zO := Lib.hid (OI.app (x := ((m : Nat) : Int)) (g' := zg) (cs' := zc) (cap' := zp) hO.out rfl (by simpa using zH.out) (by simpa using zT.out))
      have E3 : Hid (Env D w ((w1.heap.size, 3, [.int .i64 (m : Int)]) :: [(zg, 3, zc)]) [] w2) := Lib.hid (zE.out.cast (by simp))
      clear E1 E2 zE zH zT hO
      have OZ := Lib.hid (OI.snoc (x := m) zO.out)
      have hres := Lib.hid (OZ.out.rwN E3.out (by intro p hp; simp at hp ⊢; simp [hp]))
      have hbel := Lib.hid E3.out.bel
      go_wp2
      go_ret2
      refine ⟨⟨some ⟨zg, 0, none⟩, zp, ?_, Lib.hid (hres.out.eqN HD.out)⟩, hbel.out⟩
      rw [← HD.out]; simp [nl_len]
    · have t1 : decide ((p : Int) ≤ 1048576) = false := decide_eq_false (by omega)
      have t1n : decide (p ≤ 1048576) = false := decide_eq_false hc1
      have HC := Lib.hid hc
      clear hc hc1
      go_wp2_with fail
      refine (rIsB (m : Int) _ (by omega) HI.out).mono ?_
      rintro e w1 ⟨rfl, hb⟩
      have E1 : Hid (Env D w (sg) [] w1) := Lib.hid (EL.out.below hb)
      clear EL hb
      have HD : Hid (o ++ [m] = (Pri.facs 2 N).1 ++ [(Pri.facs 2 N).2]) := Lib.hid (by rw [HO.out, HZ.out])
      have E2 : Hid (Env D w ((w1.heap.size, 3, [.int .i64 (m : Int)]) :: sg) [] _) := Lib.hid ((E1.out.push 3 [.int .i64 (m : Int)] (w1.heap.size) (by simp)))
      go_wp2_with (at_builtin; refine wpl_app1 (c := 1) tiI rfl _ _ rfl E2.out (A := [(w1.heap.size, 3, [.int .i64 (m : Int)])]) (sg := sg) (B' := []) (F := ((w1.heap.size, 3, [.int .i64 (m : Int)]) :: sg)) (by simp) (hO.out.os rfl) rfl rfl (SrcN.int (E2.out.bx 0 rfl)) HOL.out ?_)
      intro zg zp zc w2 zH zT zE
      have zO := Lib.hid (OI.app (x := ((m : Nat) : Int)) (g' := zg) (cs' := zc) (cap' := zp) hO.out rfl (by simpa using zH.out) (by simpa using zT.out))
      have E3 : Hid (Env D w ((w1.heap.size, 3, [.int .i64 (m : Int)]) :: [(zg, 3, zc)]) [] w2) := Lib.hid (zE.out.cast (by simp))
      clear E1 E2 zE zH zT hO
      have OZ := Lib.hid (OI.snoc (x := m) zO.out)
      have hres := Lib.hid (OZ.out.rwN E3.out (by intro p hp; simp at hp ⊢; simp [hp]))
      have hbel := Lib.hid E3.out.bel
      go_wp2
      go_ret2
      refine ⟨⟨some ⟨zg, 0, none⟩, zp, ?_, Lib.hid (hres.out.eqN HD.out)⟩, hbel.out⟩
      rw [← HD.out]; simp [nl_len]
set_option maxRecDepth 100000 in
set_option maxHeartbeats 2000000 in
theorem rFac_none {D : Nat → Prop} (N : Nat) {w : World}  (h0 : 1 ≤ (N : Int)) (hT : (N : Int) ≤ 2305843009213693951) (hz0 : ¬ (Pri.facs 2 N).2 = 1) (hp0 : Pri.isP (Pri.facs 2 N).2 = false) :
    Calls Tryd.prog 50 #[.int .i64 (N : Nat)] w fun e w' => e = .returned (.tuple #[.slice none 0 0, .bool false]) ∧ Below w.heap.size w w' := by
  have E0 : Hid (Env D w [] [] w) := Lib.hid (Env.start D w)
  go_enter Tryd.func50, Tryd.ntmps50
  have hz := Lib.hid hz0
  clear hz0
  have hp := Lib.hid hp0
  clear hp0
  have hst := Pri.Fac.start (N := N) (by omega)
  have HST := Lib.hid hst
  clear hst
  have HN := Lib.hid h0
  have HT := Lib.hid hT
  go_wp2_with fail
  go_loopg [5, 0, 4] (1048576) (fun gk s5 s0 s4 wr => ∃ (p m : Nat) (sg : List Bx) (cs : List Value) (va : Option Addr) (vk : Nat) (o : List Nat), s5 = .int .i64 (p : Int) ∧ s0 = .int .i64 (m : Int) ∧ s4 = .slice va (nl o).length vk ∧ Hid (Env D w (sg) [] wr) ∧ Hid (OI sg cs (.slice va (nl o).length vk) (nl o)) ∧ Hid ((2 ≤ p ∧ p ≤ 1048578 ∧ gk = 1048578 - p) ∧ True ∧ Pri.Fac N p m o))
  case atStart => exact ⟨2, N, [], [], none, 0, [], rfl, rfl, rfl, Lib.hid (E0.out.cast (by simp)), Lib.hid OI.nlnil, Lib.hid ⟨⟨by omega, by omega, rfl⟩, trivial, HST.out⟩⟩
  case round =>
    clear E0
    obtain ⟨p, m, sg, cs, va, vk, o, rfl, rfl, rfl, EL, hO, HA⟩ := hrel
    clear h0 hT
    obtain ⟨⟨a1, a2, a4⟩, a5, a6⟩ := HA.out
    have HF := Lib.hid a6
    have HP := Lib.hid a5
    have hm1 := a6.2.2.1
    have hm2 : (m : Int) ≤ 2305843009213693951 := by have := a6.2.2.2; have := HT.out; omega
    clear a5 a6 HA HST
    obtain ⟨pp, hpp⟩ : ∃ pp, pp = p * p := ⟨_, rfl⟩
    have hpb : (pp : Int) ≤ 1099515822084 := by have : p * p ≤ 1048578 * 1048578 := Nat.mul_le_mul a2 a2; omega
    have e2 : (p : Int) * (p : Int) = (pp : Int) := by rw [hpp]; rfl
    have e1 : wrap64 ((p : Int) * (p : Int)) = (pp : Int) := by rw [e2, IntWalk.wrap64_in _ (by omega)]
    have HPP := Lib.hid hpp
    clear hpp
    have hp9 : (p : Int) ≤ 1048578 := by omega
    by_cases hc : p ≤ 1048576 ∧ pp ≤ m
    · have t1 : decide ((p : Int) ≤ 1048576) = true := decide_eq_true (by omega)
      have t1n : decide (p ≤ 1048576) = true := decide_eq_true hc.1
      have t2 : decide ((pp : Int) ≤ (m : Int)) = true := decide_eq_true (by omega)
      have t2n : decide (pp ≤ m) = true := decide_eq_true hc.2
      have HPL := Lib.hid (HF.out.go hc.1 (by rw [← HPP.out]; exact hc.2))
      have hp8 := hc.1
      clear hc HF
      go_wp2_with fail
      go_loopg [0, 4] (m) (fun gk s0 s4 wr => ∃ (n : Nat) (sgi : List Bx) (csi : List Value) (vai : Option Addr) (vki : Nat) (oi : List Nat), s0 = .int .i64 (n : Int) ∧ s4 = .slice vai (nl oi).length vki ∧ Hid (Env D w (sgi) [] wr) ∧ Hid (OI sgi csi (.slice vai (nl oi).length vki) (nl oi)) ∧ Hid (gk = n ∧ True ∧ Pri.Pul N p n oi))
      case atStart => exact ⟨m, sg, cs, va, vk, o, rfl, rfl, Lib.hid (EL.out.cast (by simp)), Lib.hid hO.out, Lib.hid ⟨rfl, HP.out, HPL.out⟩⟩
      case round =>
        clear EL
        obtain ⟨n, sgi, csi, vai, vki, oi, rfl, rfl, EL, hOi, HA⟩ := hrel
        clear t1 t1n t2 t2n e1 e2 hpb
        obtain ⟨b1, b2, b3⟩ := HA.out
        have HQ := Lib.hid b3
        have HP2 := Lib.hid b2
        have hn1 := b3.2.2.1
        have hn2 : (n : Int) ≤ 2305843009213693951 := by have := b3.2.2.2; have := HT.out; omega
        clear b2 b3 HA HPL HP
        have hpz : ((p : Int) == 0) = false := beq_eq_false_iff_ne.2 (by omega)
        have hol : (nl oi).length + 1 ≤ 1000000 := by rw [nl_len]; have := HQ.out.len (by have := HN.out; omega) (by have := HT.out; omega); omega
        have HOL := Lib.hid hol
        clear hol
        by_cases hd : n % p = 0
        · have t3 : ((n : Int) % (p : Int) == 0) = true := by rw [beq_iff_eq, ← Int.natCast_emod, hd]; rfl
          obtain ⟨d, hdd⟩ : ∃ d, d = n / p := ⟨_, rfl⟩
          have e4 : (n : Int) / (p : Int) = (d : Int) := by rw [hdd]; rfl
          have hlt : d < n := by rw [hdd]; exact Nat.div_lt_self hn1 (by omega)
          have HS := Lib.hid (HQ.out.step (by omega) hd)
          have HP3 : Hid True := Lib.hid trivial
          rw [← hdd] at HS
          clear hdd hd HQ HP2
          have E1 : Hid (Env D w ((wr.heap.size, 3, [.int .i64 (p : Int)]) :: sgi) [] _) := Lib.hid ((EL.out.push 3 [.int .i64 (p : Int)] (wr.heap.size) (by simp)))
          go_wp2_with (at_builtin; refine wpl_app1 (c := 1) tiI rfl _ _ rfl E1.out (A := [(wr.heap.size, 3, [.int .i64 (p : Int)])]) (sg := sgi) (B' := []) (F := ((wr.heap.size, 3, [.int .i64 (p : Int)]) :: sgi)) (by simp) (hOi.out.os rfl) rfl rfl (SrcN.int (E1.out.bx 0 rfl)) HOL.out ?_)
          intro zg zp zc w1 zH zT zE
          have zO := Lib.hid (OI.app (x := ((p : Nat) : Int)) (g' := zg) (cs' := zc) (cap' := zp) hOi.out rfl (by simpa using zH.out) (by simpa using zT.out))
          have E2 : Hid (Env D w ((wr.heap.size, 3, [.int .i64 (p : Int)]) :: [(zg, 3, zc)]) [] w1) := Lib.hid (zE.out.cast (by simp))
          clear EL E1 zE zH zT hOi
          have EZ := Lib.hid (E2.out.drop)
          have OZ := Lib.hid (OI.snoc (x := p) zO.out)
          go_wp2
          go_roundg (d)
          case rel => exact ⟨d, [(zg, 3, zc)], zc, some ⟨zg, 0, none⟩, zp, (oi ++ [p]), rfl, OI.v, EZ, OZ, Lib.hid ⟨rfl, HP3.out, HS.out⟩⟩
          case measure => exact by omega
        have t3 : ((n : Int) % (p : Int) == 0) = false := by rw [beq_eq_false_iff_ne, ← Int.natCast_emod]; exact fun h => hd (by omega)
        have HS := Lib.hid (HQ.out.stop hd)
        have HX := Lib.hid hd
        clear hd HP2 HQ
        have EZ := Lib.hid EL.out
        go_wp2
        go_roundg (1048578 - (p + 1))
        case rel => exact ⟨p + 1, n, sgi, csi, vai, vki, oi, rfl, rfl, rfl, EZ, hOi, Lib.hid ⟨⟨by omega, by omega, rfl⟩, trivial, HS.out⟩⟩
        case measure => exact by omega
    have hd := HF.out.done (by rw [← HPP.out]; exact hc)
    obtain ⟨ho9, hm9⟩ := hd
    have HO := Lib.hid ho9
    have hol : (nl o).length + 1 ≤ 1000000 := by rw [nl_len]; have := HF.out.len (by have := HN.out; omega) (by have := HT.out; omega); omega
    have HOL := Lib.hid hol
    clear hol ho9 HF HP
    have HZ : Hid (m = (Pri.facs 2 N).2) := Lib.hid hm9
    clear hm9
    have hm5 : ¬ m = 1 := by rw [HZ.out]; exact hz.out
    have t5 : ((m : Int) == 1) = false := by rw [beq_eq_false_iff_ne]; omega
    have t5n : (m == 1) = false := by rw [beq_eq_false_iff_ne]; omega
    clear hm5
    have HI : Hid (Pri.isP ((m : Int).toNat) = false) := Lib.hid (by rw [Int.toNat_natCast, HZ.out]; exact hp.out)
    by_cases hc1 : p ≤ 1048576
    · have t1 : decide ((p : Int) ≤ 1048576) = true := decide_eq_true (by omega)
      have t1n : decide (p ≤ 1048576) = true := decide_eq_true hc1
      have t2 : decide ((pp : Int) ≤ (m : Int)) = false := decide_eq_false (by omega)
      have t2n : decide (pp ≤ m) = false := decide_eq_false (by omega)
      have HC := Lib.hid hc
      clear hc hc1
      go_wp2_with fail
      refine (rIsB (m : Int) _ (by omega) HI.out).mono ?_
      rintro e w1 ⟨rfl, hb⟩
      have E1 : Hid (Env D w (sg) [] w1) := Lib.hid (EL.out.below hb)
      clear EL hb
      have hfin := Lib.hid E1.out.bel
      go_wp2
      go_ret2
      exact ⟨rfl, hfin.out⟩
    · have t1 : decide ((p : Int) ≤ 1048576) = false := decide_eq_false (by omega)
      have t1n : decide (p ≤ 1048576) = false := decide_eq_false hc1
      have HC := Lib.hid hc
      clear hc hc1
      go_wp2_with fail
      refine (rIsB (m : Int) _ (by omega) HI.out).mono ?_
      rintro e w1 ⟨rfl, hb⟩
      have E1 : Hid (Env D w (sg) [] w1) := Lib.hid (EL.out.below hb)
      clear EL hb
      have hfin := Lib.hid E1.out.bel
      go_wp2
      go_ret2
      exact ⟨rfl, hfin.out⟩
end Go.Proofs.YtinlfogpbologaaDoor

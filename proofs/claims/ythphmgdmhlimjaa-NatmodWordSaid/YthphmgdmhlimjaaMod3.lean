/- Package natmod: Gcd, Pow, the inverse. -/
import Derived.Test.YthphmgdmhlimjaaMod2
import Derived.Deep.LoopGhost
namespace Go.Proofs.Ythphmgdmhlimjaa
open Go.RowKit NatMath
set_option linter.unusedVariables false

theorem Clone_F {v : Value} {N : Nat} {w : World} (hl : len N ≤ 1000000) (h : Nt w v N) :
    Calls Try.prog 64 #[v] w fun e w' => (∃ (ao : Option Addr) (k : Nat), e = .returned (.slice ao (len N) k) ∧ Hid (Nt w' (.slice ao (len N) k) N)) ∧ Below w.heap.size w w' := by
  refine (Clone_c v N w h hl).mono ?_
  rintro e w' ⟨⟨v', hv, rfl⟩, hb⟩
  have hN := hv.out.1
  obtain ⟨ao, c, rfl, _⟩ := hN.open
  exact ⟨⟨ao, c, rfl, Lib.hid hN⟩, hb⟩

def GcdI (N M k X Y : Nat) : Prop := k = Y ∧ Nat.gcd X Y = Nat.gcd N M ∧ len X ≤ 64 ∧ len Y ≤ 64

set_option maxRecDepth 100000 in
set_option maxHeartbeats 1000000 in
theorem Gcd_w (ao : Option Addr) (ca : Nat) (bo : Option Addr) (cb : Nat) (N M : Nat)  (w : World) (ha : Nt w (.slice ao (len N) ca) N) (hb : Nt w (.slice bo (len M) cb) M) (h1 : len N ≤ 64) (h2 : len M ≤ 64) :
    Calls Try.prog 29 #[.agg #[.slice ao (len N) ca], .agg #[.slice bo (len M) cb]] w fun e w' => ResN (Nat.gcd N M) 0 e w' ∧ Below w.heap.size w w' := by
  have CV1 := Lib.hid (fun W ha => @validN (.slice ao (len N) ca) N W h1 ha)
  have CV2 := Lib.hid (fun W ha => @validN (.slice bo (len M) cb) M W h2 ha)
  have H0 : Hid (GcdI N M M N M) := Lib.hid ⟨rfl, rfl, h1, h2⟩
  clear h1 h2
  have E0 : Hid (EnvB w [] [(.slice bo (len M) cb, digs M), (.slice ao (len N) ca, digs N)] w) := Lib.hid (((EnvB.start w).numN ha).numN hb)
  clear ha hb
  go_enter Try.func29, Try.ntmps29
  go_wp2_with fail
  have E1 : Hid (EnvB w [(w.heap.size + 1 + 1, .slice none 0 0), (w.heap.size + 1, .slice bo (len M) cb), (w.heap.size, .slice ao (len N) ca)] [(.slice bo (len M) cb, digs M), (.slice ao (len N) ca, digs N)] _) := Lib.hid ((((E0.out.push (.slice ao (len N) ca) 24 ⟨_, _, _, rfl⟩ (w.heap.size) (by simp)).push (.slice bo (len M) cb) 24 ⟨_, _, _, rfl⟩ (w.heap.size + 1) (by simp)).push (.slice none 0 0) 24 ⟨_, _, _, rfl⟩ (w.heap.size + 1 + 1) (by simp)))
  refine (CV1.out _ (E1.out.nt 1 rfl)).mono ?_
  rintro e w1 ⟨rfl, hb⟩
  have E2 : Hid (EnvB w [(w.heap.size + 1 + 1, .slice none 0 0), (w.heap.size + 1, .slice bo (len M) cb), (w.heap.size, .slice ao (len N) ca)] [(.slice bo (len M) cb, digs M), (.slice ao (len N) ca, digs N)] _) := Lib.hid ((E1.out.below hb))
  clear E1 E0 hb
  obtain ⟨p1, f1, -, -, -⟩ := E2.out.box 1 rfl
  go_wp2_with fail
  refine (CV2.out _ (E2.out.nt 0 rfl)).mono ?_
  rintro e w2 ⟨rfl, hb⟩
  have E3 : Hid (EnvB w [(w.heap.size + 1 + 1, .slice none 0 0), (w.heap.size + 1, .slice bo (len M) cb), (w.heap.size, .slice ao (len N) ca)] [(.slice bo (len M) cb, digs M), (.slice ao (len N) ca, digs N)] _) := Lib.hid ((E2.out.below hb))
  clear p1 f1 E2 hb
  go_wp2_with fail
  go_loopg [] (M) (fun gk  wr => ∃ (X Y : Nat) (xo yo : Option Addr) (xc yc : Nat), Hid (EnvB w [(w.heap.size + 1 + 1, .slice none 0 0), (w.heap.size + 1, .slice yo (len Y) yc), (w.heap.size, .slice xo (len X) xc)] [(.slice yo (len Y) yc, digs Y), (.slice xo (len X) xc, digs X)] wr) ∧ Hid (GcdI N M gk X Y))
  case atStart => exact ⟨N, M, ao, bo, ca, cb, Lib.hid ⟨E3.out.1, E3.out.2.1, ⟨E3.out.sl 0 rfl, ⟨E3.out.sl 1 rfl, trivial⟩⟩⟩, H0⟩
  case round =>
    clear E3 H0 CV1 CV2
    obtain ⟨X, Y, xo, yo, xc, yc, EL, HA⟩ := hrel
    obtain ⟨a1, a2, a3, a4⟩ := HA.out
    clear HA
    by_cases hy : Y = 0
    · have t1 : len Y = 0 := len_eq_zero.2 hy
      have HG : Hid (X = Nat.gcd N M) := Lib.hid (by rw [← a2, hy, Nat.gcd_zero_right])
      have CC := Lib.hid (fun (v : Value) W ha => @Clone_F v X W (by omega) ha)
      have t2 : decide (0 < (len Y : Int)) = false := decide_eq_false (by omega)
      have t3 : decide (0 < len Y) = false := decide_eq_false (by omega)
      clear a1 a2 a3 a4 hy t1
      obtain ⟨p2, f2, -, -, -⟩ := EL.out.box 1 rfl
      obtain ⟨p3, f3, -, -, -⟩ := EL.out.box 2 rfl
      go_wp2_with fail
      refine (CC.out _ _ (EL.out.nt 1 rfl)).mono ?_
      rintro e w3 ⟨⟨za, zk, rfl, hz⟩, hb⟩
      have E4 : Hid (EnvB w [(w.heap.size + 1 + 1, .slice none 0 0), (w.heap.size + 1, .slice yo (len Y) yc), (w.heap.size, .slice xo (len X) xc)] [(.slice za (len X) zk, digs X), (.slice yo (len Y) yc, digs Y), (.slice xo (len X) xc, digs X)] _) := Lib.hid (((EL.out.below hb).numN (hz.out : Nt _ _ X)))
      clear p2 f2 p3 f3 EL hb hz
      obtain ⟨p4, f4, -, -, -⟩ := E4.out.box 0 rfl
      have E5 : Hid (EnvB w [(w.heap.size + 1 + 1, .slice za (len X) zk), (w.heap.size + 1, .slice yo (len Y) yc), (w.heap.size, .slice xo (len X) xc)] [(.slice za (len X) zk, digs X), (.slice yo (len Y) yc, digs Y), (.slice xo (len X) xc, digs X)] _) := Lib.hid ((E4.out.set 0 (.slice za (len X) zk) rfl ⟨_, _, _, rfl⟩))
      have hfin := Lib.hid E5.out
      obtain ⟨rc, -, -, -, -⟩ := E5.out.box 0 rfl
      go_wp2
      exact bodyPost_ret (v := .tuple #[.agg #[.slice za (len X) zk], .int .i64 0]) (by simp [results, Try.results29, go_sem, rc]) rfl ⟨HG.out ▸ ⟨_, _, rfl, Lib.hid (hfin.out.nt 0 rfl)⟩, hfin.out.1⟩
    · have t1 : len Y ≠ 0 := fun e => hy (len_eq_zero.1 e)
      have CR := Lib.hid (fun (u v : Value) W ha hb => @rest_c u v X Y (X % Y) W rfl a3 a4 hy ha hb)
      have hlt := Nat.mod_lt X (Nat.pos_of_ne_zero hy)
      have HK : Hid (GcdI N M (X % Y) Y (X % Y)) := Lib.hid ⟨rfl, by rw [← gcd_step]; exact a2, a4, len_le_of_lt hlt a4⟩
      have HM : Hid (X % Y < gk) := Lib.hid (by rw [a1]; exact hlt)
      have t2 : decide (0 < (len Y : Int)) = true := decide_eq_true (by omega)
      have t3 : decide (0 < len Y) = true := decide_eq_true (by omega)
      clear a1 a2 a3 a4 hy t1 hlt
      generalize X % Y = R at *
      obtain ⟨p2, f2, -, -, -⟩ := EL.out.box 1 rfl
      go_wp2_with fail
      have bx0 := Lib.hid (EL.out.box 1 rfl)
      have bx1 := Lib.hid (EL.out.box 2 rfl)
      clear p2 f2
      refine' wp_region_phase (by kernel_rfl) [0, 1, 2, 3] (by kernel_rfl) #[true, true, true, true, false, false] (by kernel_rfl) 2 (by kernel_rfl) [PEq (.agg #[.slice yo (len Y) yc]), PEq (.agg #[.slice xo (len X) xc]), PEq (.agg #[.slice yo (len Y) yc]), PNum (R), Fact.none, Fact.none] (List.forall_mem_cons.2 ⟨PEq.st _, List.forall_mem_cons.2 ⟨PEq.st _, List.forall_mem_cons.2 ⟨PEq.st _, List.forall_mem_cons.2 ⟨PNum.st _, List.forall_mem_cons.2 ⟨Fact.none_st, List.forall_mem_cons.2 ⟨Fact.none_st, List.forall_mem_nil _⟩⟩⟩⟩⟩⟩) _ ?hFr2 ?stepr2 ?doner2
      case hFr2 => intro x; simp only [frameL, Act.put, List.setIfInBounds_toArray, List.set_cons_zero, List.set_cons_succ, Nat.zero_add, Nat.reduceAdd]; exact rfl
      case stepr2 =>
        refine List.forall_mem_cons.2 ⟨?_, ?_⟩
        · intro xv bv ev WW hB hd
          refine op_of rfl ?_
          clear hd
          intro KK hKK
          obtain ⟨z, -, -, -, -⟩ := bx0.out.below hB
          go_simp
          exact act_eq (hKK.out (.agg #[.slice yo (len Y) yc]) _ (Below.refl _ _) rfl) (by first | rfl | simp [upd])
        refine List.forall_mem_cons.2 ⟨?_, ?_⟩
        · intro xv bv ev WW hB hd
          refine op_of rfl ?_
          clear hd
          intro KK hKK
          obtain ⟨z, -, -, -, -⟩ := bx1.out.below hB
          go_simp
          exact act_eq (hKK.out (.agg #[.slice xo (len X) xc]) _ (Below.refl _ _) rfl) (by first | rfl | simp [upd])
        refine List.forall_mem_cons.2 ⟨?_, ?_⟩
        · intro xv bv ev WW hB hd
          refine op_of rfl ?_
          clear hd
          intro KK hKK
          obtain ⟨z, -, -, -, -⟩ := bx0.out.below hB
          go_simp
          exact act_eq (hKK.out (.agg #[.slice yo (len Y) yc]) _ (Below.refl _ _) rfl) (by first | rfl | simp [upd])
        refine List.forall_mem_cons.2 ⟨?_, ?_⟩
        · intro xv bv ev WW hB hd
          refine op_of rfl ?_
          have ed1 : xv 1 = .agg #[.slice xo (len X) xc] := hd 1 (by kernel_rfl)
          have ed2 : xv 2 = .agg #[.slice yo (len Y) yc] := hd 2 (by kernel_rfl)
          clear hd
          intro KK hKK
          go_simp
          refine (CR.out _ _ _ ((EL.out.below hB).nt 1 rfl) ((EL.out.below hB).nt 0 rfl)).mono ?_
          rintro e WW' ⟨⟨ra, rk, rfl, hr⟩, hb⟩
          (try dsimp only)
          (try simp only [Act.put, List.setIfInBounds_toArray, List.set_cons_zero, List.set_cons_succ])
          exact act_eq (hKK.out _ _ hb ⟨_, _, rfl, hr⟩) (by first | rfl | simp [upd, ed1, ed2])
        exact List.forall_mem_nil _
      intro xv bv ev w3 hB hR hO
      have ed0 : xv 0 = .agg #[.slice yo (len Y) yc] := hR 0 (by kernel_rfl)
      have ed1 : xv 1 = .agg #[.slice xo (len X) xc] := hR 1 (by kernel_rfl)
      have ed2 : xv 2 = .agg #[.slice yo (len Y) yc] := hR 2 (by kernel_rfl)
      obtain ⟨ra, rk, ed3, hr⟩ := (show (PNum (R)) (xv 3) (bv 3) (ev 3) w3 from hR 3 (by kernel_rfl))
      simp only [ed0, ed1, ed2, ed3]
      have E4 : Hid (EnvB w [(w.heap.size + 1 + 1, .slice none 0 0), (w.heap.size + 1, .slice yo (len Y) yc), (w.heap.size, .slice xo (len X) xc)] [(.slice ra (len R) rk, digs R), (.slice yo (len Y) yc, digs Y), (.slice xo (len X) xc, digs X)] _) := Lib.hid (((EL.out.below hB).numN (hr.out : Nt _ _ (R))))
      clear EL hB hR hO bx0 bx1 ed0 ed1 ed2 ed3 hr
      obtain ⟨p3, f3, -, -, -⟩ := E4.out.box 2 rfl
      refine wpAny_next (i := 4) (by kernel_rfl) rfl (fun KK hKK => ?_)
      go_simp
      have E5 : Hid (EnvB w [(w.heap.size + 1 + 1, .slice none 0 0), (w.heap.size + 1, .slice yo (len Y) yc), (w.heap.size, .slice yo (len Y) yc)] [(.slice ra (len R) rk, digs R), (.slice yo (len Y) yc, digs Y), (.slice xo (len X) xc, digs X)] _) := Lib.hid ((E4.out.set 2 (.slice yo (len Y) yc) rfl ⟨_, _, _, rfl⟩))
      refine hKK.out _ _ ?_
      clear hKK KK
      obtain ⟨p4, f4, -, -, -⟩ := E5.out.box 1 rfl
      refine wpAny_next (i := 5) (by kernel_rfl) rfl (fun KK hKK => ?_)
      go_simp
      have E6 : Hid (EnvB w [(w.heap.size + 1 + 1, .slice none 0 0), (w.heap.size + 1, .slice ra (len R) rk), (w.heap.size, .slice yo (len Y) yc)] [(.slice ra (len R) rk, digs R), (.slice yo (len Y) yc, digs Y), (.slice xo (len X) xc, digs X)] _) := Lib.hid ((E5.out.set 1 (.slice ra (len R) rk) rfl ⟨_, _, _, rfl⟩))
      refine hKK.out _ _ ?_
      clear hKK KK
      refine wpAny_done (by kernel_rfl) ?_ _
      have E7 : Hid (EnvB w [(w.heap.size + 1 + 1, .slice none 0 0), (w.heap.size + 1, .slice ra (len R) rk), (w.heap.size, .slice yo (len Y) yc)] [(.slice ra (len R) rk, digs R), (.slice yo (len Y) yc, digs Y), (.slice xo (len X) xc, digs X)] _) := Lib.hid (E6.out)
      have EZ := Lib.hid E7.out
      go_wp2
      go_roundg (R)
      case rel => exact ⟨Y, R, yo, ra, yc, rk, Lib.hid ⟨EZ.out.1, EZ.out.2.1, ⟨EZ.out.sl 0 rfl, ⟨EZ.out.sl 1 rfl, trivial⟩⟩⟩, HK⟩
      case measure => exact HM.out

def PowI (N E K k P : Nat) (g : Nat) : Prop := g = k ∧ k ≤ bl E ∧ P = N ^ (E / 2 ^ k) % K

set_option maxRecDepth 100000 in
set_option maxHeartbeats 1000000 in
theorem Pow_w (ao : Option Addr) (ca : Nat) (bo : Option Addr) (cb : Nat) (co : Option Addr) (cc : Nat) (N E K : Nat)  (w : World) (ha : Nt w (.slice ao (len N) ca) N) (hb : Nt w (.slice bo (len E) cb) E) (hc : Nt w (.slice co (len K) cc) K) (he : len E ≤ 64) (hn : N < K) (hk : len K ≤ 32) :
    Calls Try.prog 36 #[.agg #[.slice ao (len N) ca], .agg #[.slice bo (len E) cb], .agg #[.slice co (len K) cc]] w fun e w' => ResN (N ^ E % K) 0 e w' ∧ Below w.heap.size w w' := by
  have hK0 : K ≠ 0 := by omega
  have CV := Lib.hid (fun W ha => @validN (.slice bo (len E) cb) E W he ha)
  have CG := Lib.hid (fun W ha hb hc => @given_ok (.slice ao (len N) ca) (.slice ao (len N) ca) (.slice co (len K) cc) N N K W hn hn hk ha hb hc)
  have CR := Lib.hid (fun (u : Value) W ha hb => @rest_c u (.slice co (len K) cc) 1 K (1 % K) W rfl (by rw [len_one]; omega) (by omega) hK0 ha hb)
  have CB := Lib.hid (fun W ha => @bitsF (.slice bo (len E) cb) E W (bl E) rfl he ha)
  have CT := Lib.hid (fun (j : Nat) W (hj : (j : Int) ≤ 9223372036854775807) ha => Bit_c (.slice bo (len E) cb) E j W ha he hj)
  have CM := Lib.hid (fun (u v : Value) (X Y : Nat) W hx hy ha hb hc => @mul_c u v (.slice co (len K) cc) X Y K (X * Y % K) W rfl hx hy hk ha hb hc)
  have hbe : bl E ≤ 2048 := len_le_bits.2 he
  have HS : Hid (PowI N E K (bl E) (1 % K) (bl E)) := Lib.hid ⟨rfl, Nat.le_refl _, (powm_start N E K).symm⟩
  have HNK : Hid (N < K) := Lib.hid hn
  have HBE : Hid (bl E ≤ 2048) := Lib.hid hbe
  clear he hn hk hK0 hbe
  have E0 : Hid (EnvB w [] [(.slice co (len K) cc, digs K), (.slice bo (len E) cb, digs E), (.slice ao (len N) ca, digs N)] w) := Lib.hid ((((EnvB.start w).numN ha).numN hb).numN hc)
  clear ha hb hc
  go_enter Try.func36, Try.ntmps36
  go_wp2_with fail
  have E1 : Hid (EnvB w [(w.heap.size + 1 + 1 + 1, .slice none 0 0), (w.heap.size + 1 + 1, .slice co (len K) cc), (w.heap.size + 1, .slice bo (len E) cb), (w.heap.size, .slice ao (len N) ca)] [(.slice co (len K) cc, digs K), (.slice bo (len E) cb, digs E), (.slice ao (len N) ca, digs N)] _) := Lib.hid (((((E0.out.push (.slice ao (len N) ca) 24 ⟨_, _, _, rfl⟩ (w.heap.size) (by simp)).push (.slice bo (len E) cb) 24 ⟨_, _, _, rfl⟩ (w.heap.size + 1) (by simp)).push (.slice co (len K) cc) 24 ⟨_, _, _, rfl⟩ (w.heap.size + 1 + 1) (by simp)).push (.slice none 0 0) 24 ⟨_, _, _, rfl⟩ (w.heap.size + 1 + 1 + 1) (by simp)))
  refine (CV.out _ (E1.out.nt 1 rfl)).mono ?_
  rintro e w1 ⟨rfl, hb⟩
  have E2 : Hid (EnvB w [(w.heap.size + 1 + 1 + 1, .slice none 0 0), (w.heap.size + 1 + 1, .slice co (len K) cc), (w.heap.size + 1, .slice bo (len E) cb), (w.heap.size, .slice ao (len N) ca)] [(.slice co (len K) cc, digs K), (.slice bo (len E) cb, digs E), (.slice ao (len N) ca, digs N)] _) := Lib.hid ((E1.out.below hb))
  clear E1 E0 hb
  obtain ⟨p1, f1, -, -, -⟩ := E2.out.box 3 rfl
  obtain ⟨p2, f2, -, -, -⟩ := E2.out.box 1 rfl
  go_wp2_with fail
  refine (CG.out _ (E2.out.nt 2 rfl) (E2.out.nt 2 rfl) (E2.out.nt 0 rfl)).mono ?_
  rintro e w2 ⟨rfl, hb⟩
  have E3 : Hid (EnvB w [(w.heap.size + 1 + 1 + 1, .slice none 0 0), (w.heap.size + 1 + 1, .slice co (len K) cc), (w.heap.size + 1, .slice bo (len E) cb), (w.heap.size, .slice ao (len N) ca)] [(.slice co (len K) cc, digs K), (.slice bo (len E) cb, digs E), (.slice ao (len N) ca, digs N)] _) := Lib.hid ((E2.out.below hb))
  clear p1 f1 p2 f2 E2 hb
  go_wp2_with fail
  have bx0 := Lib.hid (E3.out.box 1 rfl)
  refine' wp_region_phase (by kernel_rfl) [0, 1, 2, 3] (by kernel_rfl) #[true, true, true, true, false] (by kernel_rfl) 1 (by kernel_rfl) [PNum (1), PEq (.agg #[.slice co (len K) cc]), PNum ((1 % K)), PBox w2.heap.size, Fact.none] (List.forall_mem_cons.2 ⟨PNum.st _, List.forall_mem_cons.2 ⟨PEq.st _, List.forall_mem_cons.2 ⟨PNum.st _, List.forall_mem_cons.2 ⟨PBox.st _, List.forall_mem_cons.2 ⟨Fact.none_st, List.forall_mem_nil _⟩⟩⟩⟩⟩) _ ?hFr2 ?stepr2 ?doner2
  case hFr2 => intro x; simp only [frameL, Act.put, List.setIfInBounds_toArray, List.set_cons_zero, List.set_cons_succ, Nat.zero_add, Nat.reduceAdd]; exact rfl
  case stepr2 =>
    refine List.forall_mem_cons.2 ⟨?_, ?_⟩
    · intro xv bv ev WW hB hd
      refine op_of rfl ?_
      clear hd
      intro KK hKK
      go_simp
      refine (one_c _).mono ?_
      rintro e WW' ⟨⟨ia, ik, rfl, hi⟩, hb⟩
      (try dsimp only)
      (try simp only [Act.put, List.setIfInBounds_toArray, List.set_cons_zero, List.set_cons_succ])
      exact act_eq (hKK.out _ _ hb ⟨_, _, rfl, hi⟩) (by first | rfl | simp [upd])
    refine List.forall_mem_cons.2 ⟨?_, ?_⟩
    · intro xv bv ev WW hB hd
      refine op_of rfl ?_
      clear hd
      intro KK hKK
      obtain ⟨z, -, -, -, -⟩ := bx0.out.below hB
      go_simp
      exact act_eq (hKK.out (.agg #[.slice co (len K) cc]) _ (Below.refl _ _) rfl) (by first | rfl | simp [upd])
    refine List.forall_mem_cons.2 ⟨?_, ?_⟩
    · intro xv bv ev WW hB hd
      refine op_of rfl ?_
      obtain ⟨ia, ik, ed0, hi⟩ := (show (PNum (1)) (xv 0) (bv 0) (ev 0) WW from hd 0 (by kernel_rfl))
      have ed1 : xv 1 = .agg #[.slice co (len K) cc] := hd 1 (by kernel_rfl)
      clear hd
      intro KK hKK
      go_simp
      refine (CR.out _ _ hi.out ((E3.out.below hB).nt 0 rfl)).mono ?_
      rintro e WW' ⟨⟨za, zk, rfl, hz⟩, hb⟩
      (try dsimp only)
      (try simp only [Act.put, List.setIfInBounds_toArray, List.set_cons_zero, List.set_cons_succ])
      exact act_eq (hKK.out _ _ hb ⟨_, _, rfl, hz⟩) (by first | rfl | simp [upd, ed0, ed1])
    refine List.forall_mem_cons.2 ⟨?_, ?_⟩
    · intro xv bv ev WW hB hd
      refine op_of rfl ?_
      clear hd
      intro KK hKK
      go_simp
      exact act_eq (hKK.out (.pointer (some ⟨WW.heap.size, 0, none⟩)) _ (below_one _ _) (PBox.mk hB rfl _)) (by first | rfl | simp [upd])
    exact List.forall_mem_nil _
  intro xv bv ev w3 hB hR hO
  obtain ⟨ia, ik, ed0, hi⟩ := (show (PNum (1)) (xv 0) (bv 0) (ev 0) w3 from hR 0 (by kernel_rfl))
  have ed1 : xv 1 = .agg #[.slice co (len K) cc] := hR 1 (by kernel_rfl)
  obtain ⟨za, zk, ed2, hz⟩ := (show (PNum ((1 % K))) (xv 2) (bv 2) (ev 2) w3 from hR 2 (by kernel_rfl))
  obtain ⟨gr2_3, ed3, hg3, hb3, he3, hc3, hf3, hs3⟩ := (show (PBox w2.heap.size) (xv 3) (bv 3) (ev 3) w3 from hR 3 (by kernel_rfl))
  simp only [ed0, ed1, ed2, ed3]
  have E4 : Hid (EnvB w [(gr2_3, .slice none 0 0), (w.heap.size + 1 + 1 + 1, .slice none 0 0), (w.heap.size + 1 + 1, .slice co (len K) cc), (w.heap.size + 1, .slice bo (len E) cb), (w.heap.size, .slice ao (len N) ca)] [(.slice za (len (1 % K)) zk, digs (1 % K)), (.slice ia (len 1) ik, digs 1), (.slice co (len K) cc, digs K), (.slice bo (len E) cb, digs E), (.slice ao (len N) ca, digs N)] _) := Lib.hid (((((E3.out.below hB).add gr2_3 (.slice none 0 0) ⟨hc3, hf3, hs3, Nat.le_trans E3.out.size hg3, ⟨_, _, _, rfl⟩⟩ (fun p hp => by have := E3.out.old p hp; omega)).numN (hi.out : Nt _ _ (1))).numN (hz.out : Nt _ _ ((1 % K)))))
  clear E3 hB hR hO bx0 ed0 ed1 ed2 ed3 hi hz hg3 hb3 he3 hc3 hf3 hs3
  obtain ⟨p3, f3, -, -, -⟩ := E4.out.box 0 rfl
  refine wpAny_next (i := 4) (by kernel_rfl) rfl (fun KK hKK => ?_)
  go_simp
  have E5 : Hid (EnvB w [(gr2_3, .slice za (len (1 % K)) zk), (w.heap.size + 1 + 1 + 1, .slice none 0 0), (w.heap.size + 1 + 1, .slice co (len K) cc), (w.heap.size + 1, .slice bo (len E) cb), (w.heap.size, .slice ao (len N) ca)] [(.slice za (len (1 % K)) zk, digs (1 % K)), (.slice ia (len 1) ik, digs 1), (.slice co (len K) cc, digs K), (.slice bo (len E) cb, digs E), (.slice ao (len N) ca, digs N)] _) := Lib.hid ((E4.out.set 0 (.slice za (len (1 % K)) zk) rfl ⟨_, _, _, rfl⟩))
  refine hKK.out _ _ ?_
  clear hKK KK
  refine wpAny_done (by kernel_rfl) ?_ _
  generalize hbl : bl E = n at CB
  have HBL := Lib.hid hbl
  clear hbl
  have hn48 : (n : Int) ≤ 2048 := by have h1 := HBE.out; rw [HBL.out] at h1; omega
  have hn0 : 0 ≤ (n : Int) := by omega
  obtain ⟨p4, f4, -, -, -⟩ := E5.out.box 3 rfl
  go_wp2_with fail
  refine (CB.out _ (E5.out.nt 3 rfl)).mono ?_
  rintro e w4 ⟨rfl, hb⟩
  have E6 : Hid (EnvB w [(gr2_3, .slice za (len (1 % K)) zk), (w.heap.size + 1 + 1 + 1, .slice none 0 0), (w.heap.size + 1 + 1, .slice co (len K) cc), (w.heap.size + 1, .slice bo (len E) cb), (w.heap.size, .slice ao (len N) ca)] [(.slice za (len (1 % K)) zk, digs (1 % K)), (.slice ia (len 1) ik, digs 1), (.slice co (len K) cc, digs K), (.slice bo (len E) cb, digs E), (.slice ao (len N) ca, digs N)] _) := Lib.hid ((E5.out.below hb))
  clear p3 f3 p4 f4 E5 E4 hb
  go_wp2_with fail
  go_loopg [10] (n) (fun gk s10 wr => ∃ (k P : Nat) (po : Option Addr) (pc : Nat), s10 = .int .i64 ((k : Int) - 1) ∧ Hid (EnvB w [(gr2_3, .slice po (len P) pc), (w.heap.size + 1 + 1 + 1, .slice none 0 0), (w.heap.size + 1 + 1, .slice co (len K) cc), (w.heap.size + 1, .slice bo (len E) cb), (w.heap.size, .slice ao (len N) ca)] [(.slice po (len P) pc, digs P), (.slice co (len K) cc, digs K), (.slice bo (len E) cb, digs E), (.slice ao (len N) ca, digs N)] wr) ∧ Hid (PowI N E K k P gk))
  case atStart => exact ⟨n, 1 % K, za, zk, rfl, Lib.hid ⟨E6.out.1, E6.out.2.1, ⟨E6.out.sl 0 rfl, ⟨E6.out.sl 2 rfl, ⟨E6.out.sl 3 rfl, ⟨E6.out.sl 4 rfl, trivial⟩⟩⟩⟩⟩, Lib.hid (HBL.out ▸ HS.out)⟩
  case round =>
    clear E6 HS CB CG CV CR
    obtain ⟨k, P, po, pc, rfl, EL, HA⟩ := hrel
    obtain ⟨a1, a2, a3⟩ := HA.out
    clear HA
    by_cases hy : k = 0
    · have t1 : decide (0 ≤ (k : Int) - 1) = false := decide_eq_false (by omega)
      have t2 : decide (1 ≤ (k : Int)) = false := decide_eq_false (by omega)
      have HP : Hid (P = N ^ E % K) := Lib.hid (by rw [a3, hy, Nat.pow_zero, Nat.div_one])
      clear a1 a2 a3 hy HBE HNK CM CT
      obtain ⟨p5, f5, -, -, -⟩ := EL.out.box 0 rfl
      obtain ⟨p6, f6, -, -, -⟩ := EL.out.box 1 rfl
      have E7 : Hid (EnvB w [(gr2_3, .slice po (len P) pc), (w.heap.size + 1 + 1 + 1, .slice po (len P) pc), (w.heap.size + 1 + 1, .slice co (len K) cc), (w.heap.size + 1, .slice bo (len E) cb), (w.heap.size, .slice ao (len N) ca)] [(.slice po (len P) pc, digs P), (.slice co (len K) cc, digs K), (.slice bo (len E) cb, digs E), (.slice ao (len N) ca, digs N)] _) := Lib.hid ((EL.out.set 1 (.slice po (len P) pc) rfl ⟨_, _, _, rfl⟩))
      have hfin := Lib.hid E7.out
      obtain ⟨rc, -, -, -, -⟩ := E7.out.box 1 rfl
      go_wp2
      exact bodyPost_ret (v := .tuple #[.agg #[.slice po (len P) pc], .int .i64 0]) (by simp [results, Try.results36, go_sem, rc]) rfl ⟨HP.out ▸ ⟨_, _, rfl, Lib.hid (hfin.out.nt 0 rfl)⟩, hfin.out.1⟩
    · obtain ⟨j, rfl⟩ : ∃ j, k = j + 1 := ⟨k - 1, by omega⟩
      have ej : (((j + 1 : Nat) : Int) - 1) = (j : Int) := by omega
      rw [ej]
      have hj : (j : Int) ≤ 9223372036854775807 := by have := HBE.out; omega
      have t1 : decide (0 ≤ (j : Int)) = true := decide_eq_true (by omega)
      have hPK : P < K := by rw [a3]; exact Nat.mod_lt _ (by have := HNK.out; omega)
      have hQK : P * P % K < K := Nat.mod_lt _ (by omega)
      have hst := powm_step N E K j
      rw [← a3] at hst
      have CM1 := Lib.hid (fun (u : Value) W ha hb hc => CM.out u u P P W hPK hPK ha hb hc)
      have CM2 := Lib.hid (fun (u v : Value) W ha hb hc => CM.out u v (P * P % K) N W hQK HNK.out ha hb hc)
      have HM : Hid (j < gk) := Lib.hid (by omega)
      have HJ : Hid (j ≤ bl E) := Lib.hid (by omega)
      have CTj := Lib.hid (fun W ha => CT.out j W hj ha)
      clear a1 a2 a3 hy ej hPK hQK CM CT HNK HBE
      generalize P * P % K = Q at *
      generalize bt E j = t at *
      cases t
      · have HST := Lib.hid hst
        clear hst
        have HK2 : Hid (PowI N E K j Q j) := Lib.hid ⟨rfl, HJ.out, by have := HST.out; simpa using this⟩
        clear HST HJ
        obtain ⟨p5, f5, -, -, -⟩ := EL.out.box 0 rfl
        obtain ⟨p6, f6, -, -, -⟩ := EL.out.box 2 rfl
        go_wp2_with fail
        refine (CM1.out _ _ (EL.out.nt 0 rfl) (EL.out.nt 0 rfl) (EL.out.nt 1 rfl)).mono ?_
        rintro e w5 ⟨⟨qa, qk, rfl, hq⟩, hb⟩
        have E7 : Hid (EnvB w [(gr2_3, .slice po (len P) pc), (w.heap.size + 1 + 1 + 1, .slice none 0 0), (w.heap.size + 1 + 1, .slice co (len K) cc), (w.heap.size + 1, .slice bo (len E) cb), (w.heap.size, .slice ao (len N) ca)] [(.slice qa (len Q) qk, digs Q), (.slice po (len P) pc, digs P), (.slice co (len K) cc, digs K), (.slice bo (len E) cb, digs E), (.slice ao (len N) ca, digs N)] _) := Lib.hid (((EL.out.below hb).numN (hq.out : Nt _ _ Q)))
        clear p5 f5 p6 f6 EL hb hq
        obtain ⟨p7, f7, -, -, -⟩ := E7.out.box 0 rfl
        have E8 : Hid (EnvB w [(gr2_3, .slice qa (len Q) qk), (w.heap.size + 1 + 1 + 1, .slice none 0 0), (w.heap.size + 1 + 1, .slice co (len K) cc), (w.heap.size + 1, .slice bo (len E) cb), (w.heap.size, .slice ao (len N) ca)] [(.slice qa (len Q) qk, digs Q), (.slice po (len P) pc, digs P), (.slice co (len K) cc, digs K), (.slice bo (len E) cb, digs E), (.slice ao (len N) ca, digs N)] _) := Lib.hid ((E7.out.set 0 (.slice qa (len Q) qk) rfl ⟨_, _, _, rfl⟩))
        obtain ⟨p8, f8, -, -, -⟩ := E8.out.box 3 rfl
        go_wp2_with fail
        refine (CTj.out _ (E8.out.nt 3 rfl)).mono ?_
        rintro e w6 ⟨rfl, hb⟩
        have E9 : Hid (EnvB w [(gr2_3, .slice qa (len Q) qk), (w.heap.size + 1 + 1 + 1, .slice none 0 0), (w.heap.size + 1 + 1, .slice co (len K) cc), (w.heap.size + 1, .slice bo (len E) cb), (w.heap.size, .slice ao (len N) ca)] [(.slice qa (len Q) qk, digs Q), (.slice po (len P) pc, digs P), (.slice co (len K) cc, digs K), (.slice bo (len E) cb, digs E), (.slice ao (len N) ca, digs N)] _) := Lib.hid ((E8.out.below hb))
        clear p7 f7 p8 f8 E8 E7 hb
        have EZ := Lib.hid E9.out
        go_wp2
        go_roundg (j)
        case rel => exact ⟨j, Q, qa, qk, rfl, Lib.hid ⟨EZ.out.1, EZ.out.2.1, ⟨EZ.out.sl 0 rfl, ⟨EZ.out.sl 2 rfl, ⟨EZ.out.sl 3 rfl, ⟨EZ.out.sl 4 rfl, trivial⟩⟩⟩⟩⟩, HK2⟩
        case measure => exact HM.out
      · have HST := Lib.hid hst
        clear hst
        have HK2 : Hid (PowI N E K j (Q * N % K) j) := Lib.hid ⟨rfl, HJ.out, by have := HST.out; simpa using this⟩
        clear HST HJ
        generalize Q * N % K = R at *
        obtain ⟨p5, f5, -, -, -⟩ := EL.out.box 0 rfl
        obtain ⟨p6, f6, -, -, -⟩ := EL.out.box 2 rfl
        go_wp2_with fail
        refine (CM1.out _ _ (EL.out.nt 0 rfl) (EL.out.nt 0 rfl) (EL.out.nt 1 rfl)).mono ?_
        rintro e w5 ⟨⟨qa, qk, rfl, hq⟩, hb⟩
        have E7 : Hid (EnvB w [(gr2_3, .slice po (len P) pc), (w.heap.size + 1 + 1 + 1, .slice none 0 0), (w.heap.size + 1 + 1, .slice co (len K) cc), (w.heap.size + 1, .slice bo (len E) cb), (w.heap.size, .slice ao (len N) ca)] [(.slice qa (len Q) qk, digs Q), (.slice po (len P) pc, digs P), (.slice co (len K) cc, digs K), (.slice bo (len E) cb, digs E), (.slice ao (len N) ca, digs N)] _) := Lib.hid (((EL.out.below hb).numN (hq.out : Nt _ _ Q)))
        clear p5 f5 p6 f6 EL hb hq
        obtain ⟨p7, f7, -, -, -⟩ := E7.out.box 0 rfl
        have E8 : Hid (EnvB w [(gr2_3, .slice qa (len Q) qk), (w.heap.size + 1 + 1 + 1, .slice none 0 0), (w.heap.size + 1 + 1, .slice co (len K) cc), (w.heap.size + 1, .slice bo (len E) cb), (w.heap.size, .slice ao (len N) ca)] [(.slice qa (len Q) qk, digs Q), (.slice po (len P) pc, digs P), (.slice co (len K) cc, digs K), (.slice bo (len E) cb, digs E), (.slice ao (len N) ca, digs N)] _) := Lib.hid ((E7.out.set 0 (.slice qa (len Q) qk) rfl ⟨_, _, _, rfl⟩))
        obtain ⟨p8, f8, -, -, -⟩ := E8.out.box 3 rfl
        go_wp2_with fail
        refine (CTj.out _ (E8.out.nt 3 rfl)).mono ?_
        rintro e w6 ⟨rfl, hb⟩
        have E9 : Hid (EnvB w [(gr2_3, .slice qa (len Q) qk), (w.heap.size + 1 + 1 + 1, .slice none 0 0), (w.heap.size + 1 + 1, .slice co (len K) cc), (w.heap.size + 1, .slice bo (len E) cb), (w.heap.size, .slice ao (len N) ca)] [(.slice qa (len Q) qk, digs Q), (.slice po (len P) pc, digs P), (.slice co (len K) cc, digs K), (.slice bo (len E) cb, digs E), (.slice ao (len N) ca, digs N)] _) := Lib.hid ((E8.out.below hb))
        clear p7 f7 p8 f8 E8 E7 hb
        obtain ⟨p9, f9, -, -, -⟩ := E9.out.box 0 rfl
        obtain ⟨p10, f10, -, -, -⟩ := E9.out.box 4 rfl
        obtain ⟨p11, f11, -, -, -⟩ := E9.out.box 2 rfl
        go_wp2_with fail
        refine (CM2.out _ _ _ (E9.out.nt 0 rfl) (E9.out.nt 4 rfl) (E9.out.nt 2 rfl)).mono ?_
        rintro e w7 ⟨⟨sa, sk, rfl, hs⟩, hb⟩
        have E10 : Hid (EnvB w [(gr2_3, .slice qa (len Q) qk), (w.heap.size + 1 + 1 + 1, .slice none 0 0), (w.heap.size + 1 + 1, .slice co (len K) cc), (w.heap.size + 1, .slice bo (len E) cb), (w.heap.size, .slice ao (len N) ca)] [(.slice sa (len R) sk, digs R), (.slice qa (len Q) qk, digs Q), (.slice po (len P) pc, digs P), (.slice co (len K) cc, digs K), (.slice bo (len E) cb, digs E), (.slice ao (len N) ca, digs N)] _) := Lib.hid (((E9.out.below hb).numN (hs.out : Nt _ _ R)))
        clear p9 f9 p10 f10 p11 f11 E9 hb hs
        obtain ⟨p12, f12, -, -, -⟩ := E10.out.box 0 rfl
        have E11 : Hid (EnvB w [(gr2_3, .slice sa (len R) sk), (w.heap.size + 1 + 1 + 1, .slice none 0 0), (w.heap.size + 1 + 1, .slice co (len K) cc), (w.heap.size + 1, .slice bo (len E) cb), (w.heap.size, .slice ao (len N) ca)] [(.slice sa (len R) sk, digs R), (.slice qa (len Q) qk, digs Q), (.slice po (len P) pc, digs P), (.slice co (len K) cc, digs K), (.slice bo (len E) cb, digs E), (.slice ao (len N) ca, digs N)] _) := Lib.hid ((E10.out.set 0 (.slice sa (len R) sk) rfl ⟨_, _, _, rfl⟩))
        have EZ := Lib.hid E11.out
        go_wp2
        go_roundg (j)
        case rel => exact ⟨j, R, sa, sk, rfl, Lib.hid ⟨EZ.out.1, EZ.out.2.1, ⟨EZ.out.sl 0 rfl, ⟨EZ.out.sl 3 rfl, ⟨EZ.out.sl 4 rfl, ⟨EZ.out.sl 5 rfl, trivial⟩⟩⟩⟩⟩, HK2⟩
        case measure => exact HM.out

def InvS (A K g R Y T F : Nat) : Prop := g = Y ∧ len R ≤ 64 ∧ len Y ≤ 64 ∧ T < K ∧ F < K ∧ inv K R Y T F = inv K K A 0 (1 % K)
theorem InvS.step {A K g R Y T F : Nat} (h : InvS A K g R Y T F) (hy : Y ≠ 0) : InvS A K (R % Y) Y (R % Y) F (subm T (R / Y % K * F % K) K) ∧ R % Y < g := by
  obtain ⟨h1, h2, h3, h4, h5, h6⟩ := h
  have hlt := Nat.mod_lt R (Nat.pos_of_ne_zero hy)
  exact ⟨⟨rfl, h3, len_le_of_lt hlt h3, h5, subm_lt h4 (Nat.mod_lt _ (by omega)), by rw [← inv_pos _ _ _ _ hy]; exact h6⟩, by omega⟩

set_option maxRecDepth 100000 in
set_option maxHeartbeats 1000000 in
theorem inverse_w (ao : Option Addr) (ca : Nat) (bo : Option Addr) (cb : Nat) (N K : Nat) (V : Nat) (t : Bool) (w : World) (ha : Nt w (.slice ao (len N) ca) N) (hb : Nt w (.slice bo (len K) cb) K) (hV : invV N K = V) (ht : decide (invG N K = 1) = t) (hn : N < K) (hk : len K ≤ 32) :
    Calls Try.prog 52 #[.agg #[.slice ao (len N) ca], .agg #[.slice bo (len K) cb]] w fun e w' => ResB V t e w' ∧ Below w.heap.size w w' := by
  have hK0 : K ≠ 0 := by omega
  have CR := Lib.hid (fun (u : Value) (X : Nat) W (hx : len X ≤ 64) ha hb => @rest_c u (.slice bo (len K) cb) X K (X % K) W rfl hx (by omega) hK0 ha hb)
  have CM := Lib.hid (fun (u v : Value) (X Y : Nat) W hx hy ha hb hc => @mul_c u v (.slice bo (len K) cb) X Y K (X * Y % K) W rfl hx hy hk ha hb hc)
  have CS := Lib.hid (fun (u v : Value) (X Y : Nat) W hx hy ha hb hc => @sub_c u v (.slice bo (len K) cb) X Y K (subm X Y K) W rfl hx hy hk ha hb hc)
  have hl1 : len 1 ≤ 64 := by rw [len_one]; omega
  have HS : Hid (InvS N K N K N 0 (1 % K)) := Lib.hid ⟨rfl, by omega, by have := len_le_of_lt hn hk; omega, by omega, Nat.mod_lt _ (by omega), rfl⟩
  have HVT := Lib.hid (And.intro hV ht)
  clear hn hk hK0 hV ht
  have E0 : Hid (EnvB w [] [(.slice bo (len K) cb, digs K), (.slice ao (len N) ca, digs N)] w) := Lib.hid (((EnvB.start w).numN ha).numN hb)
  clear ha hb
  go_enter Try.func52, Try.ntmps52
  go_wp2_with fail
  have E1 : Hid (EnvB w [(w.heap.size + 1 + 1, .slice none 0 0), (w.heap.size + 1, .slice bo (len K) cb), (w.heap.size, .slice ao (len N) ca)] [(.slice bo (len K) cb, digs K), (.slice ao (len N) ca, digs N)] (((w.alloc (.cells #[.slice ao (len N) ca] 24)).alloc (.cells #[.slice bo (len K) cb] 24)).alloc (.cells #[.slice none 0 0] 24))) := Lib.hid ((((E0.out.push (.slice ao (len N) ca) 24 ⟨_, _, _, rfl⟩ (w.heap.size) (by simp)).push (.slice bo (len K) cb) 24 ⟨_, _, _, rfl⟩ (w.heap.size + 1) (by simp)).push (.slice none 0 0) 24 ⟨_, _, _, rfl⟩ (w.heap.size + 1 + 1) (by simp)))
  clear E0
  generalize ((w.alloc (.cells #[.slice ao (len N) ca] 24)).alloc (.cells #[.slice bo (len K) cb] 24)).alloc (.cells #[.slice none 0 0] 24) = w1 at *
  have E1d : Hid (EnvB w [(w.heap.size + 1 + 1, .slice none 0 0), (w.heap.size + 1, .slice bo (len K) cb), (w.heap.size, .slice ao (len N) ca)] [(.slice bo (len K) cb, digs K), (.slice ao (len N) ca, digs N)] w1.drew) := Lib.hid E1.out.drew
  have bx0 := Lib.hid (E1d.out.box 1 rfl)
  have bx1 := Lib.hid (E1d.out.box 2 rfl)
  refine wp_region_held_drew (S := fun w' => w'.cell? ⟨w.heap.size, 0, none⟩ = some (.slice ao (len N) ca)) (by kernel_rfl) ((E1d.out.box 2 rfl).1) (fun hHeld => ?_)
  refine takeW (i := 1) (some 14) (v := .agg #[.slice ao (len N) ca]) rfl rfl (by kernel_rfl) (by kernel_rfl) (by kernel_rfl) (fun _ _ _ h => h) (by rfl) hHeld ?_ ?_
  · (intro wS hSw; (try dsimp only at hSw); go_simp; try with_reducible rfl)
  simp only [Act.put, List.setIfInBounds_toArray, List.set_cons_zero, List.set_cons_succ]
  refine' wpAnyH_phase (fun _ _ h hb => (hb.cell (World.block_lt_of_cell? _ _ h)).trans h) [1] [0, 2, 3] (by kernel_rfl) _ (by kernel_rfl) _ (by kernel_rfl) #[true, true, true, true, false, false] (by kernel_rfl) 2 (by kernel_rfl) hHeld [PEq (.agg #[.slice bo (len K) cb]), PEq (.agg #[.slice ao (len N) ca]), PBox w1.heap.size, PBox w1.heap.size, Fact.none, Fact.none] (List.forall_mem_cons.2 ⟨PEq.st _, List.forall_mem_cons.2 ⟨PEq.st _, List.forall_mem_cons.2 ⟨PBox.st _, List.forall_mem_cons.2 ⟨PBox.st _, List.forall_mem_cons.2 ⟨Fact.none_st, List.forall_mem_cons.2 ⟨Fact.none_st, List.forall_mem_nil _⟩⟩⟩⟩⟩⟩) _ ?hFr1 ?hTr1 ?stepr1 ?doner1
  case hFr1 => intro x; simp only [frameL, Act.put, List.setIfInBounds_toArray, List.set_cons_zero, List.set_cons_succ, Nat.zero_add, Nat.reduceAdd]; exact rfl
  case hTr1 =>
    intro i hi
    obtain rfl : i = 1 := by simpa using hi
    exact rfl
  case stepr1 =>
    refine List.forall_mem_cons.2 ⟨?_, ?_⟩
    · intro xv bv ev WW hB hd
      refine op_of rfl ?_
      clear hd
      intro KK hKK
      obtain ⟨z, -, -, -, -⟩ := bx0.out.below hB
      go_simp
      exact act_eq (hKK.out (.agg #[.slice bo (len K) cb]) _ (Below.refl _ _) rfl) (by first | rfl | simp [upd])
    refine List.forall_mem_cons.2 ⟨?_, ?_⟩
    · intro xv bv ev WW hB hd
      refine op_of rfl ?_
      clear hd
      intro KK hKK
      go_simp
      exact act_eq (hKK.out (.pointer (some ⟨WW.heap.size, 0, none⟩)) _ (below_one _ _) (PBox.mk hB rfl _)) (by first | rfl | simp [upd])
    refine List.forall_mem_cons.2 ⟨?_, ?_⟩
    · intro xv bv ev WW hB hd
      refine op_of rfl ?_
      clear hd
      intro KK hKK
      go_simp
      exact act_eq (hKK.out (.pointer (some ⟨WW.heap.size, 0, none⟩)) _ (below_one _ _) (PBox.mk hB rfl _)) (by first | rfl | simp [upd])
    exact List.forall_mem_nil _
  intro xv bv ev w2 hB hSW hR hO
  have ed0 : xv 0 = .agg #[.slice bo (len K) cb] := hR 0 (by kernel_rfl)
  have ed1 : xv 1 = .agg #[.slice ao (len N) ca] := hR 1 (by kernel_rfl)
  obtain ⟨gr1_2, ed2, hg2, hb2, he2, hc2, hf2, hs2⟩ := (show (PBox w1.heap.size) (xv 2) (bv 2) (ev 2) w2 from hR 2 (by kernel_rfl))
  obtain ⟨gr1_3, ed3, hg3, hb3, he3, hc3, hf3, hs3⟩ := (show (PBox w1.heap.size) (xv 3) (bv 3) (ev 3) w2 from hR 3 (by kernel_rfl))
  simp only [ed0, ed1, ed2, ed3]
  have ne2_3 : gr1_2 ≠ gr1_3 := by have := hO 2 3 (by kernel_rfl) (by kernel_rfl) (by decide); omega
  have E2 : Hid (EnvB w [(gr1_3, .slice none 0 0), (gr1_2, .slice none 0 0), (w.heap.size + 1 + 1, .slice none 0 0), (w.heap.size + 1, .slice bo (len K) cb), (w.heap.size, .slice ao (len N) ca)] [(.slice bo (len K) cb, digs K), (.slice ao (len N) ca, digs N)] _) := Lib.hid ((((E1d.out.below hB).add gr1_2 (.slice none 0 0) ⟨hc2, hf2, hs2, Nat.le_trans E1.out.size hg2, ⟨_, _, _, rfl⟩⟩ (fun p hp => by have := E1.out.old p hp; omega)).add gr1_3 (.slice none 0 0) ⟨hc3, hf3, hs3, Nat.le_trans E1.out.size hg3, ⟨_, _, _, rfl⟩⟩ (List.forall_mem_cons.2 ⟨ne2_3, fun p hp => by have := E1.out.old p hp; omega⟩)))
  clear E1 hB hR hO hSW E1d bx0 bx1 ed0 ed1 ed2 ed3 hg2 hb2 he2 hc2 hf2 hs2 hg3 hb3 he3 hc3 hf3 hs3 ne2_3
  obtain ⟨p1, f1, -, -, -⟩ := E2.out.box 1 rfl
  refine wpAnyH_next (i := 4) (by kernel_rfl) rfl (fun KK hKK => ?_)
  go_simp
  have E3 : Hid (EnvB w [(gr1_3, .slice none 0 0), (gr1_2, .slice bo (len K) cb), (w.heap.size + 1 + 1, .slice none 0 0), (w.heap.size + 1, .slice bo (len K) cb), (w.heap.size, .slice ao (len N) ca)] [(.slice bo (len K) cb, digs K), (.slice ao (len N) ca, digs N)] _) := Lib.hid ((E2.out.set 1 (.slice bo (len K) cb) rfl ⟨_, _, _, rfl⟩))
  refine hKK.out _ _ ((E3.out.box 4 rfl).1) ?_
  clear hKK KK
  obtain ⟨p2, f2, -, -, -⟩ := E3.out.box 0 rfl
  refine wpAnyH_next (i := 5) (by kernel_rfl) rfl (fun KK hKK => ?_)
  go_simp
  have E4 : Hid (EnvB w [(gr1_3, .slice ao (len N) ca), (gr1_2, .slice bo (len K) cb), (w.heap.size + 1 + 1, .slice none 0 0), (w.heap.size + 1, .slice bo (len K) cb), (w.heap.size, .slice ao (len N) ca)] [(.slice bo (len K) cb, digs K), (.slice ao (len N) ca, digs N)] _) := Lib.hid ((E3.out.set 0 (.slice ao (len N) ca) rfl ⟨_, _, _, rfl⟩))
  refine hKK.out _ _ ((E4.out.box 4 rfl).1) ?_
  clear hKK KK
  refine wpAnyH_done (by kernel_rfl) ?_ _
  go_wp2_with fail
  have E5 : Hid (EnvB w [(gr1_3, .slice ao (len N) ca), (gr1_2, .slice bo (len K) cb), (w.heap.size + 1 + 1, .slice none 0 0), (w.heap.size + 1, .slice bo (len K) cb), (w.heap.size, .slice ao (len N) ca)] [(.slice bo (len K) cb, digs K), (.slice ao (len N) ca, digs N)] ((w2.setCell ⟨gr1_2, 0, none⟩ (.slice bo (len K) cb)).setCell ⟨gr1_3, 0, none⟩ (.slice ao (len N) ca))) := Lib.hid (E4.out)
  clear p1 f1 p2 f2 E4
  generalize (w2.setCell ⟨gr1_2, 0, none⟩ (.slice bo (len K) cb)).setCell ⟨gr1_3, 0, none⟩ (.slice ao (len N) ca) = w3 at *
  have bx0 := Lib.hid (E5.out.box 3 rfl)
  refine' wp_region_phase (by kernel_rfl) [0, 1, 2, 3, 4, 5] (by kernel_rfl) #[true, true, true, true, true, true, false, false] (by kernel_rfl) 2 (by kernel_rfl) [PNum (0), PNum (1), PEq (.agg #[.slice bo (len K) cb]), PNum ((1 % K)), PBox w3.heap.size, PBox w3.heap.size, Fact.none, Fact.none] (List.forall_mem_cons.2 ⟨PNum.st _, List.forall_mem_cons.2 ⟨PNum.st _, List.forall_mem_cons.2 ⟨PEq.st _, List.forall_mem_cons.2 ⟨PNum.st _, List.forall_mem_cons.2 ⟨PBox.st _, List.forall_mem_cons.2 ⟨PBox.st _, List.forall_mem_cons.2 ⟨Fact.none_st, List.forall_mem_cons.2 ⟨Fact.none_st, List.forall_mem_nil _⟩⟩⟩⟩⟩⟩⟩⟩) _ ?hFr3 ?stepr3 ?doner3
  case hFr3 => intro x; simp only [frameL, Act.put, List.setIfInBounds_toArray, List.set_cons_zero, List.set_cons_succ, Nat.zero_add, Nat.reduceAdd]; exact rfl
  case stepr3 =>
    refine List.forall_mem_cons.2 ⟨?_, ?_⟩
    · intro xv bv ev WW hB hd
      refine op_of rfl ?_
      clear hd
      intro KK hKK
      go_simp
      refine (zero_c _).mono ?_
      rintro e WW' ⟨⟨za, zk, rfl, hz⟩, hb⟩
      (try dsimp only)
      (try simp only [Act.put, List.setIfInBounds_toArray, List.set_cons_zero, List.set_cons_succ])
      exact act_eq (hKK.out _ _ hb ⟨_, _, rfl, hz⟩) (by first | rfl | simp [upd])
    refine List.forall_mem_cons.2 ⟨?_, ?_⟩
    · intro xv bv ev WW hB hd
      refine op_of rfl ?_
      clear hd
      intro KK hKK
      go_simp
      refine (one_c _).mono ?_
      rintro e WW' ⟨⟨ia, ik, rfl, hi⟩, hb⟩
      (try dsimp only)
      (try simp only [Act.put, List.setIfInBounds_toArray, List.set_cons_zero, List.set_cons_succ])
      exact act_eq (hKK.out _ _ hb ⟨_, _, rfl, hi⟩) (by first | rfl | simp [upd])
    refine List.forall_mem_cons.2 ⟨?_, ?_⟩
    · intro xv bv ev WW hB hd
      refine op_of rfl ?_
      clear hd
      intro KK hKK
      obtain ⟨z, -, -, -, -⟩ := bx0.out.below hB
      go_simp
      exact act_eq (hKK.out (.agg #[.slice bo (len K) cb]) _ (Below.refl _ _) rfl) (by first | rfl | simp [upd])
    refine List.forall_mem_cons.2 ⟨?_, ?_⟩
    · intro xv bv ev WW hB hd
      refine op_of rfl ?_
      obtain ⟨ia, ik, ed1, hi⟩ := (show (PNum (1)) (xv 1) (bv 1) (ev 1) WW from hd 1 (by kernel_rfl))
      have ed2 : xv 2 = .agg #[.slice bo (len K) cb] := hd 2 (by kernel_rfl)
      clear hd
      intro KK hKK
      go_simp
      refine (CR.out _ _ _ hl1 hi.out ((E5.out.below hB).nt 0 rfl)).mono ?_
      rintro e WW' ⟨⟨ja, jk, rfl, hj⟩, hb⟩
      (try dsimp only)
      (try simp only [Act.put, List.setIfInBounds_toArray, List.set_cons_zero, List.set_cons_succ])
      exact act_eq (hKK.out _ _ hb ⟨_, _, rfl, hj⟩) (by first | rfl | simp [upd, ed1, ed2])
    refine List.forall_mem_cons.2 ⟨?_, ?_⟩
    · intro xv bv ev WW hB hd
      refine op_of rfl ?_
      clear hd
      intro KK hKK
      go_simp
      exact act_eq (hKK.out (.pointer (some ⟨WW.heap.size, 0, none⟩)) _ (below_one _ _) (PBox.mk hB rfl _)) (by first | rfl | simp [upd])
    refine List.forall_mem_cons.2 ⟨?_, ?_⟩
    · intro xv bv ev WW hB hd
      refine op_of rfl ?_
      clear hd
      intro KK hKK
      go_simp
      exact act_eq (hKK.out (.pointer (some ⟨WW.heap.size, 0, none⟩)) _ (below_one _ _) (PBox.mk hB rfl _)) (by first | rfl | simp [upd])
    exact List.forall_mem_nil _
  intro xv bv ev w4 hB hR hO
  obtain ⟨za, zk, ed0, hz⟩ := (show (PNum (0)) (xv 0) (bv 0) (ev 0) w4 from hR 0 (by kernel_rfl))
  obtain ⟨ia, ik, ed1, hi⟩ := (show (PNum (1)) (xv 1) (bv 1) (ev 1) w4 from hR 1 (by kernel_rfl))
  have ed2 : xv 2 = .agg #[.slice bo (len K) cb] := hR 2 (by kernel_rfl)
  obtain ⟨ja, jk, ed3, hj⟩ := (show (PNum ((1 % K))) (xv 3) (bv 3) (ev 3) w4 from hR 3 (by kernel_rfl))
  obtain ⟨gr3_4, ed4, hg4, hb4, he4, hc4, hf4, hs4⟩ := (show (PBox w3.heap.size) (xv 4) (bv 4) (ev 4) w4 from hR 4 (by kernel_rfl))
  obtain ⟨gr3_5, ed5, hg5, hb5, he5, hc5, hf5, hs5⟩ := (show (PBox w3.heap.size) (xv 5) (bv 5) (ev 5) w4 from hR 5 (by kernel_rfl))
  simp only [ed0, ed1, ed2, ed3, ed4, ed5]
  have ne4_5 : gr3_4 ≠ gr3_5 := by have := hO 4 5 (by kernel_rfl) (by kernel_rfl) (by decide); omega
  have E6 : Hid (EnvB w [(gr3_5, .slice none 0 0), (gr3_4, .slice none 0 0), (gr1_3, .slice ao (len N) ca), (gr1_2, .slice bo (len K) cb), (w.heap.size + 1 + 1, .slice none 0 0), (w.heap.size + 1, .slice bo (len K) cb), (w.heap.size, .slice ao (len N) ca)] [(.slice ja (len (1 % K)) jk, digs (1 % K)), (.slice ia (len 1) ik, digs 1), (.slice za (len 0) zk, digs 0), (.slice bo (len K) cb, digs K), (.slice ao (len N) ca, digs N)] _) := Lib.hid (((((((E5.out.below hB).add gr3_4 (.slice none 0 0) ⟨hc4, hf4, hs4, Nat.le_trans E5.out.size hg4, ⟨_, _, _, rfl⟩⟩ (fun p hp => by have := E5.out.old p hp; omega)).add gr3_5 (.slice none 0 0) ⟨hc5, hf5, hs5, Nat.le_trans E5.out.size hg5, ⟨_, _, _, rfl⟩⟩ (List.forall_mem_cons.2 ⟨ne4_5, fun p hp => by have := E5.out.old p hp; omega⟩)).numN (hz.out : Nt _ _ (0))).numN (hi.out : Nt _ _ (1))).numN (hj.out : Nt _ _ ((1 % K)))))
  clear E5 E2 E3 hB hR hO bx0 ed0 ed1 ed2 ed3 ed4 ed5 hz hi hj hg4 hb4 he4 hc4 hf4 hs4 hg5 hb5 he5 hc5 hf5 hs5 ne4_5
  obtain ⟨p3, f3, -, -, -⟩ := E6.out.box 1 rfl
  refine wpAny_next (i := 6) (by kernel_rfl) rfl (fun KK hKK => ?_)
  go_simp
  have E7 : Hid (EnvB w [(gr3_5, .slice none 0 0), (gr3_4, .slice za (len 0) zk), (gr1_3, .slice ao (len N) ca), (gr1_2, .slice bo (len K) cb), (w.heap.size + 1 + 1, .slice none 0 0), (w.heap.size + 1, .slice bo (len K) cb), (w.heap.size, .slice ao (len N) ca)] [(.slice ja (len (1 % K)) jk, digs (1 % K)), (.slice ia (len 1) ik, digs 1), (.slice za (len 0) zk, digs 0), (.slice bo (len K) cb, digs K), (.slice ao (len N) ca, digs N)] _) := Lib.hid ((E6.out.set 1 (.slice za (len 0) zk) rfl ⟨_, _, _, rfl⟩))
  refine hKK.out _ _ ?_
  clear hKK KK
  obtain ⟨p4, f4, -, -, -⟩ := E7.out.box 0 rfl
  refine wpAny_next (i := 7) (by kernel_rfl) rfl (fun KK hKK => ?_)
  go_simp
  have E8 : Hid (EnvB w [(gr3_5, .slice ja (len (1 % K)) jk), (gr3_4, .slice za (len 0) zk), (gr1_3, .slice ao (len N) ca), (gr1_2, .slice bo (len K) cb), (w.heap.size + 1 + 1, .slice none 0 0), (w.heap.size + 1, .slice bo (len K) cb), (w.heap.size, .slice ao (len N) ca)] [(.slice ja (len (1 % K)) jk, digs (1 % K)), (.slice ia (len 1) ik, digs 1), (.slice za (len 0) zk, digs 0), (.slice bo (len K) cb, digs K), (.slice ao (len N) ca, digs N)] _) := Lib.hid ((E7.out.set 0 (.slice ja (len (1 % K)) jk) rfl ⟨_, _, _, rfl⟩))
  refine hKK.out _ _ ?_
  clear hKK KK
  refine wpAny_done (by kernel_rfl) ?_ _
  go_wp2_with fail
  have E9 : Hid (EnvB w [(gr3_5, .slice ja (len (1 % K)) jk), (gr3_4, .slice za (len 0) zk), (gr1_3, .slice ao (len N) ca), (gr1_2, .slice bo (len K) cb), (w.heap.size + 1 + 1, .slice none 0 0), (w.heap.size + 1, .slice bo (len K) cb), (w.heap.size, .slice ao (len N) ca)] [(.slice ja (len (1 % K)) jk, digs (1 % K)), (.slice ia (len 1) ik, digs 1), (.slice za (len 0) zk, digs 0), (.slice bo (len K) cb, digs K), (.slice ao (len N) ca, digs N)] _) := Lib.hid (E8.out)
  go_loopg [] (N) (fun gk  wr => ∃ (R Y T F : Nat) (ro yo tl fo : Option Addr) (rc yc tc fc : Nat), Hid (EnvB w [(gr3_5, .slice fo (len F) fc), (gr3_4, .slice tl (len T) tc), (gr1_3, .slice yo (len Y) yc), (gr1_2, .slice ro (len R) rc), (w.heap.size + 1 + 1, .slice none 0 0), (w.heap.size + 1, .slice bo (len K) cb), (w.heap.size, .slice ao (len N) ca)] [(.slice fo (len F) fc, digs F), (.slice tl (len T) tc, digs T), (.slice yo (len Y) yc, digs Y), (.slice ro (len R) rc, digs R), (.slice bo (len K) cb, digs K), (.slice ao (len N) ca, digs N)] wr) ∧ Hid (InvS N K gk R Y T F))
  case atStart => exact ⟨K, N, 0, 1 % K, bo, ao, za, ja, cb, ca, zk, jk, Lib.hid ⟨E9.out.1, E9.out.2.1, ⟨E9.out.sl 0 rfl, ⟨E9.out.sl 2 rfl, ⟨E9.out.sl 4 rfl, ⟨E9.out.sl 3 rfl, ⟨E9.out.sl 3 rfl, ⟨E9.out.sl 4 rfl, trivial⟩⟩⟩⟩⟩⟩⟩, HS⟩
  case round =>
    clear p3 f3 p4 f4 E9 E6 E7 E8 HS
    obtain ⟨R, Y, T, F, ro, yo, tl, fo, rc, yc, tc, fc, EL, HA⟩ := hrel
    by_cases hy : Y = 0
    · obtain ⟨a1, a2, a3, a4, a5, a6⟩ := HA.out
      have hR : invV N K = T ∧ invG N K = R := by rw [hy, inv_zero] at a6; unfold invV invG; rw [← a6]; exact ⟨rfl, rfl⟩
      obtain rfl : T = V := hR.1.symm.trans HVT.out.1
      have t1 : len Y = 0 := len_eq_zero.2 hy
      have t2 : decide (0 < (len Y : Int)) = false := decide_eq_false (by omega)
      have t3 : decide (0 < len Y) = false := decide_eq_false (by omega)
      have CC := Lib.hid (fun (u v : Value) W ha hb => @compareF u v R 1 W _ rfl ha hb a2 hl1)
      have hcm : (cmp R 1 == 0) = t := by rw [cmp_zero_iff, ← hR.2]; exact HVT.out.2
      clear HA a1 a2 a3 a4 a5 a6 hy t1 CR CM CS hR HVT
      generalize cmp R 1 = c at *
      obtain ⟨p5, f5, -, -, -⟩ := EL.out.box 2 rfl
      go_wp2_with fail
      have ELd : Hid (EnvB w [(gr3_5, .slice fo (len F) fc), (gr3_4, .slice tl (len T) tc), (gr1_3, .slice yo (len Y) yc), (gr1_2, .slice ro (len R) rc), (w.heap.size + 1 + 1, .slice none 0 0), (w.heap.size + 1, .slice bo (len K) cb), (w.heap.size, .slice ao (len N) ca)] [(.slice fo (len F) fc, digs F), (.slice tl (len T) tc, digs T), (.slice yo (len Y) yc, digs Y), (.slice ro (len R) rc, digs R), (.slice bo (len K) cb, digs K), (.slice ao (len N) ca, digs N)] wr.drew) := Lib.hid EL.out.drew
      have bx0 := Lib.hid (ELd.out.box 1 rfl)
      have bx1 := Lib.hid (ELd.out.box 3 rfl)
      clear p5 f5
      refine wp_region_held_drew (S := fun w' => w'.cell? ⟨gr3_4, 0, none⟩ = some (.slice tl (len T) tc)) (by kernel_rfl) ((ELd.out.box 1 rfl).1) (fun hHeld => ?_)
      refine takeW (i := 0) (some 42) (v := .agg #[.slice tl (len T) tc]) rfl rfl (by kernel_rfl) (by kernel_rfl) (by kernel_rfl) (fun _ _ _ h => h) (by rfl) hHeld ?_ ?_
      · (intro wS hSw; (try dsimp only at hSw); go_simp; try with_reducible rfl)
      simp only [Act.put, List.setIfInBounds_toArray, List.set_cons_zero, List.set_cons_succ]
      refine' wpAnyH_phase (fun _ _ h hb => (hb.cell (World.block_lt_of_cell? _ _ h)).trans h) [0] [1, 2, 3] (by kernel_rfl) _ (by kernel_rfl) _ (by kernel_rfl) #[true, true, true, true, false, false, false] (by kernel_rfl) 3 (by kernel_rfl) hHeld [PEq (.agg #[.slice tl (len T) tc]), PEq (.agg #[.slice ro (len R) rc]), PNum (1), PEq (.int .i64 c), Fact.none, Fact.none, Fact.none] (List.forall_mem_cons.2 ⟨PEq.st _, List.forall_mem_cons.2 ⟨PEq.st _, List.forall_mem_cons.2 ⟨PNum.st _, List.forall_mem_cons.2 ⟨PEq.st _, List.forall_mem_cons.2 ⟨Fact.none_st, List.forall_mem_cons.2 ⟨Fact.none_st, List.forall_mem_cons.2 ⟨Fact.none_st, List.forall_mem_nil _⟩⟩⟩⟩⟩⟩⟩) _ ?hFr4 ?hTr4 ?stepr4 ?doner4
      case hFr4 => intro x; simp only [frameL, Act.put, List.setIfInBounds_toArray, List.set_cons_zero, List.set_cons_succ, Nat.zero_add, Nat.reduceAdd]; exact rfl
      case hTr4 =>
        intro i hi
        obtain rfl : i = 0 := by simpa using hi
        exact rfl
      case stepr4 =>
        refine List.forall_mem_cons.2 ⟨?_, ?_⟩
        · intro xv bv ev WW hB hd
          refine op_of rfl ?_
          clear hd
          intro KK hKK
          obtain ⟨z, -, -, -, -⟩ := bx1.out.below hB
          go_simp
          exact act_eq (hKK.out (.agg #[.slice ro (len R) rc]) _ (Below.refl _ _) rfl) (by first | rfl | simp [upd])
        refine List.forall_mem_cons.2 ⟨?_, ?_⟩
        · intro xv bv ev WW hB hd
          refine op_of rfl ?_
          clear hd
          intro KK hKK
          go_simp
          refine (one_c _).mono ?_
          rintro e WW' ⟨⟨ia, ik, rfl, hi⟩, hb⟩
          (try dsimp only)
          (try simp only [Act.put, List.setIfInBounds_toArray, List.set_cons_zero, List.set_cons_succ])
          exact act_eq (hKK.out _ _ hb ⟨_, _, rfl, hi⟩) (by first | rfl | simp [upd])
        refine List.forall_mem_cons.2 ⟨?_, ?_⟩
        · intro xv bv ev WW hB hd
          refine op_of rfl ?_
          have ed1 : xv 1 = .agg #[.slice ro (len R) rc] := hd 1 (by kernel_rfl)
          obtain ⟨ia, ik, ed2, hi⟩ := (show (PNum (1)) (xv 2) (bv 2) (ev 2) WW from hd 2 (by kernel_rfl))
          clear hd
          intro KK hKK
          go_simp
          refine (CC.out _ _ _ ((ELd.out.below hB).nt 3 rfl) hi.out).mono ?_
          rintro e WW' ⟨rfl, hb⟩
          (try dsimp only)
          (try simp only [Act.put, List.setIfInBounds_toArray, List.set_cons_zero, List.set_cons_succ])
          exact act_eq (hKK.out _ _ hb rfl) (by first | rfl | simp [upd, ed1, ed2])
        exact List.forall_mem_nil _
      intro xv bv ev w5 hB hSW hR hO
      have ed0 : xv 0 = .agg #[.slice tl (len T) tc] := hR 0 (by kernel_rfl)
      have ed1 : xv 1 = .agg #[.slice ro (len R) rc] := hR 1 (by kernel_rfl)
      obtain ⟨ia, ik, ed2, hi⟩ := (show (PNum (1)) (xv 2) (bv 2) (ev 2) w5 from hR 2 (by kernel_rfl))
      have ed3 : xv 3 = .int .i64 c := hR 3 (by kernel_rfl)
      simp only [ed0, ed1, ed2, ed3]
      have E10 : Hid (EnvB w [(gr3_5, .slice fo (len F) fc), (gr3_4, .slice tl (len T) tc), (gr1_3, .slice yo (len Y) yc), (gr1_2, .slice ro (len R) rc), (w.heap.size + 1 + 1, .slice none 0 0), (w.heap.size + 1, .slice bo (len K) cb), (w.heap.size, .slice ao (len N) ca)] [(.slice ia (len 1) ik, digs 1), (.slice fo (len F) fc, digs F), (.slice tl (len T) tc, digs T), (.slice yo (len Y) yc, digs Y), (.slice ro (len R) rc, digs R), (.slice bo (len K) cb, digs K), (.slice ao (len N) ca, digs N)] _) := Lib.hid (((ELd.out.below hB).numN (hi.out : Nt _ _ (1))))
      clear EL hB hR hO hSW ELd bx0 bx1 ed0 ed1 ed2 ed3 hi
      refine takeW (i := 4) (some 46) (v := ?_) rfl rfl (by kernel_rfl) (by kernel_rfl) (by kernel_rfl) (fun _ _ _ h => h) (by rfl) ((E10.out.box 1 rfl).1) ?_ ?_
      rotate_left
      · (intro wS hSw; go_simp; try with_reducible rfl)
      simp only [Act.put, List.setIfInBounds_toArray, List.set_cons_zero, List.set_cons_succ]
      obtain ⟨p6, f6, -, -, -⟩ := E10.out.box 4 rfl
      refine wpAnyH_next (i := 5) (by kernel_rfl) rfl (fun KK hKK => ?_)
      go_simp
      have E11 : Hid (EnvB w [(gr3_5, .slice fo (len F) fc), (gr3_4, .slice tl (len T) tc), (gr1_3, .slice yo (len Y) yc), (gr1_2, .slice ro (len R) rc), (w.heap.size + 1 + 1, .slice tl (len T) tc), (w.heap.size + 1, .slice bo (len K) cb), (w.heap.size, .slice ao (len N) ca)] [(.slice ia (len 1) ik, digs 1), (.slice fo (len F) fc, digs F), (.slice tl (len T) tc, digs T), (.slice yo (len Y) yc, digs Y), (.slice ro (len R) rc, digs R), (.slice bo (len K) cb, digs K), (.slice ao (len N) ca, digs N)] _) := Lib.hid ((E10.out.set 4 (.slice tl (len T) tc) rfl ⟨_, _, _, rfl⟩))
      refine hKK.out _ _ ((E11.out.box 1 rfl).1) ?_
      clear hKK KK
      refine wpAnyH_next (i := 6) (by kernel_rfl) rfl (fun KK hKK => ?_)
      go_simp
      refine hKK.out _ _ ((E11.out.box 1 rfl).1) ?_
      clear hKK KK
      refine wpAnyH_done (by kernel_rfl) ?_ _
      have E12 : Hid (EnvB w [(gr3_5, .slice fo (len F) fc), (gr3_4, .slice tl (len T) tc), (gr1_3, .slice yo (len Y) yc), (gr1_2, .slice ro (len R) rc), (w.heap.size + 1 + 1, .slice tl (len T) tc), (w.heap.size + 1, .slice bo (len K) cb), (w.heap.size, .slice ao (len N) ca)] [(.slice ia (len 1) ik, digs 1), (.slice fo (len F) fc, digs F), (.slice tl (len T) tc, digs T), (.slice yo (len Y) yc, digs Y), (.slice ro (len R) rc, digs R), (.slice bo (len K) cb, digs K), (.slice ao (len N) ca, digs N)] _) := Lib.hid (E11.out)
      have hfin := Lib.hid E12.out
      obtain ⟨rc, -, -, -, -⟩ := E12.out.box 4 rfl
      go_wp2
      exact bodyPost_ret (v := .tuple #[.agg #[.slice tl (len T) tc], .bool t]) (by simp [results, Try.results52, go_sem, rc]) rfl ⟨⟨_, _, rfl, Lib.hid (hfin.out.nt 2 rfl)⟩, hfin.out.1⟩
    · have HK2 := Lib.hid (HA.out.step hy).1
      have HM := Lib.hid (HA.out.step hy).2
      obtain ⟨a1, a2, a3, a4, a5, a6⟩ := HA.out
      have t1 : len Y ≠ 0 := fun e => hy (len_eq_zero.1 e)
      have t2 : decide (0 < (len Y : Int)) = true := decide_eq_true (by omega)
      have t3 : decide (0 < len Y) = true := decide_eq_true (by omega)
      have CD := Lib.hid (fun (u v : Value) W ha hb => @divF u v R Y (R / Y) (R % Y) W rfl rfl ha hb a2 a3 hy)
      have CR1 := Lib.hid (fun (u : Value) W ha hb => CR.out u (R / Y) W (Nat.le_trans (len_le_of_le (Nat.div_le_self _ _)) a2) ha hb)
      have hq : R / Y % K < K := Nat.mod_lt _ (by omega)
      have CM1 := Lib.hid (fun (u v : Value) W ha hb hc => CM.out u v (R / Y % K) F W hq a5 ha hb hc)
      have hz : R / Y % K * F % K < K := Nat.mod_lt _ (by omega)
      have CS1 := Lib.hid (fun (u v : Value) W ha hb hc => CS.out u v T (R / Y % K * F % K) W a4 hz ha hb hc)
      clear HA a1 a2 a3 a4 a5 a6 hy t1 CR CM CS hq hz
      generalize subm T (R / Y % K * F % K) K = S at *
      generalize R / Y % K * F % K = Z at *
      generalize R / Y % K = V at *
      generalize R / Y = Q at *
      generalize R % Y = U at *
      obtain ⟨p5, f5, -, -, -⟩ := EL.out.box 2 rfl
      obtain ⟨p6, f6, -, -, -⟩ := EL.out.box 3 rfl
      go_wp2_with fail
      refine (CD.out _ _ _ (EL.out.nt 3 rfl) (EL.out.nt 2 rfl)).mono ?_
      rintro e w5 ⟨⟨qa, qk, ua, uk, rfl, hq, hu⟩, hb⟩
      have E10 : Hid (EnvB w [(gr3_5, .slice fo (len F) fc), (gr3_4, .slice tl (len T) tc), (gr1_3, .slice yo (len Y) yc), (gr1_2, .slice ro (len R) rc), (w.heap.size + 1 + 1, .slice none 0 0), (w.heap.size + 1, .slice bo (len K) cb), (w.heap.size, .slice ao (len N) ca)] [(.slice ua (len U) uk, digs U), (.slice qa (len Q) qk, digs Q), (.slice fo (len F) fc, digs F), (.slice tl (len T) tc, digs T), (.slice yo (len Y) yc, digs Y), (.slice ro (len R) rc, digs R), (.slice bo (len K) cb, digs K), (.slice ao (len N) ca, digs N)] _) := Lib.hid ((((EL.out.below hb).numN (hq.out : Nt _ _ Q)).numN (hu.out : Nt _ _ U)))
      clear p5 f5 p6 f6 EL hb hq hu
      go_wp2_with fail
      have E11 : Hid (EnvB w [(w5.heap.size + 1, .slice ua (len U) uk), (w5.heap.size, .slice qa (len Q) qk), (gr3_5, .slice fo (len F) fc), (gr3_4, .slice tl (len T) tc), (gr1_3, .slice yo (len Y) yc), (gr1_2, .slice ro (len R) rc), (w.heap.size + 1 + 1, .slice none 0 0), (w.heap.size + 1, .slice bo (len K) cb), (w.heap.size, .slice ao (len N) ca)] [(.slice ua (len U) uk, digs U), (.slice qa (len Q) qk, digs Q), (.slice fo (len F) fc, digs F), (.slice tl (len T) tc, digs T), (.slice yo (len Y) yc, digs Y), (.slice ro (len R) rc, digs R), (.slice bo (len K) cb, digs K), (.slice ao (len N) ca, digs N)] ((w5.alloc (.cells #[.slice qa (len Q) qk] 24)).alloc (.cells #[.slice ua (len U) uk] 24))) := Lib.hid (((E10.out.push (.slice qa (len Q) qk) 24 ⟨_, _, _, rfl⟩ (w5.heap.size) (by simp)).push (.slice ua (len U) uk) 24 ⟨_, _, _, rfl⟩ (w5.heap.size + 1) (by simp)))
      clear E10
      generalize (w5.alloc (.cells #[.slice qa (len Q) qk] 24)).alloc (.cells #[.slice ua (len U) uk] 24) = w6 at *
      have E11d : Hid (EnvB w [(w5.heap.size + 1, .slice ua (len U) uk), (w5.heap.size, .slice qa (len Q) qk), (gr3_5, .slice fo (len F) fc), (gr3_4, .slice tl (len T) tc), (gr1_3, .slice yo (len Y) yc), (gr1_2, .slice ro (len R) rc), (w.heap.size + 1 + 1, .slice none 0 0), (w.heap.size + 1, .slice bo (len K) cb), (w.heap.size, .slice ao (len N) ca)] [(.slice ua (len U) uk, digs U), (.slice qa (len Q) qk, digs Q), (.slice fo (len F) fc, digs F), (.slice tl (len T) tc, digs T), (.slice yo (len Y) yc, digs Y), (.slice ro (len R) rc, digs R), (.slice bo (len K) cb, digs K), (.slice ao (len N) ca, digs N)] w6.drew) := Lib.hid E11.out.drew
      have bx0 := Lib.hid (E11d.out.box 4 rfl)
      have bx1 := Lib.hid (E11d.out.box 0 rfl)
      refine wp_region_held_drew (S := fun w' => w'.cell? ⟨w5.heap.size + 1, 0, none⟩ = some (.slice ua (len U) uk)) (by kernel_rfl) ((E11d.out.box 0 rfl).1) (fun hHeld => ?_)
      refine takeW (i := 1) (some 31) (v := .agg #[.slice ua (len U) uk]) rfl rfl (by kernel_rfl) (by kernel_rfl) (by kernel_rfl) (fun _ _ _ h => h) (by rfl) hHeld ?_ ?_
      · (intro wS hSw; (try dsimp only at hSw); go_simp; try with_reducible rfl)
      simp only [Act.put, List.setIfInBounds_toArray, List.set_cons_zero, List.set_cons_succ]
      refine' wpAnyH_phase (fun _ _ h hb => (hb.cell (World.block_lt_of_cell? _ _ h)).trans h) [1] [0] (by kernel_rfl) _ (by kernel_rfl) _ (by kernel_rfl) #[true, true, false, false] (by kernel_rfl) 2 (by kernel_rfl) hHeld [PEq (.agg #[.slice yo (len Y) yc]), PEq (.agg #[.slice ua (len U) uk]), Fact.none, Fact.none] (List.forall_mem_cons.2 ⟨PEq.st _, List.forall_mem_cons.2 ⟨PEq.st _, List.forall_mem_cons.2 ⟨Fact.none_st, List.forall_mem_cons.2 ⟨Fact.none_st, List.forall_mem_nil _⟩⟩⟩⟩) _ ?hFr6 ?hTr6 ?stepr6 ?doner6
      case hFr6 => intro x; simp only [frameL, Act.put, List.setIfInBounds_toArray, List.set_cons_zero, List.set_cons_succ, Nat.zero_add]; exact rfl
      case hTr6 =>
        intro i hi
        obtain rfl : i = 1 := by simpa using hi
        exact rfl
      case stepr6 =>
        refine List.forall_mem_cons.2 ⟨?_, ?_⟩
        · intro xv bv ev WW hB hd
          refine op_of rfl ?_
          clear hd
          intro KK hKK
          obtain ⟨z, -, -, -, -⟩ := bx0.out.below hB
          go_simp
          exact act_eq (hKK.out (.agg #[.slice yo (len Y) yc]) _ (Below.refl _ _) rfl) (by first | rfl | simp [upd])
        exact List.forall_mem_nil _
      intro xv bv ev w7 hB hSW hR hO
      have ed0 : xv 0 = .agg #[.slice yo (len Y) yc] := hR 0 (by kernel_rfl)
      have ed1 : xv 1 = .agg #[.slice ua (len U) uk] := hR 1 (by kernel_rfl)
      simp only [ed0, ed1]
      have E12 : Hid (EnvB w [(w5.heap.size + 1, .slice ua (len U) uk), (w5.heap.size, .slice qa (len Q) qk), (gr3_5, .slice fo (len F) fc), (gr3_4, .slice tl (len T) tc), (gr1_3, .slice yo (len Y) yc), (gr1_2, .slice ro (len R) rc), (w.heap.size + 1 + 1, .slice none 0 0), (w.heap.size + 1, .slice bo (len K) cb), (w.heap.size, .slice ao (len N) ca)] [(.slice ua (len U) uk, digs U), (.slice qa (len Q) qk, digs Q), (.slice fo (len F) fc, digs F), (.slice tl (len T) tc, digs T), (.slice yo (len Y) yc, digs Y), (.slice ro (len R) rc, digs R), (.slice bo (len K) cb, digs K), (.slice ao (len N) ca, digs N)] _) := Lib.hid ((E11d.out.below hB))
      clear E11 hB hR hO hSW E11d bx0 bx1 ed0 ed1
      obtain ⟨p7, f7, -, -, -⟩ := E12.out.box 5 rfl
      refine wpAnyH_next (i := 2) (by kernel_rfl) rfl (fun KK hKK => ?_)
      go_simp
      have E13 : Hid (EnvB w [(w5.heap.size + 1, .slice ua (len U) uk), (w5.heap.size, .slice qa (len Q) qk), (gr3_5, .slice fo (len F) fc), (gr3_4, .slice tl (len T) tc), (gr1_3, .slice yo (len Y) yc), (gr1_2, .slice yo (len Y) yc), (w.heap.size + 1 + 1, .slice none 0 0), (w.heap.size + 1, .slice bo (len K) cb), (w.heap.size, .slice ao (len N) ca)] [(.slice ua (len U) uk, digs U), (.slice qa (len Q) qk, digs Q), (.slice fo (len F) fc, digs F), (.slice tl (len T) tc, digs T), (.slice yo (len Y) yc, digs Y), (.slice ro (len R) rc, digs R), (.slice bo (len K) cb, digs K), (.slice ao (len N) ca, digs N)] _) := Lib.hid ((E12.out.set 5 (.slice yo (len Y) yc) rfl ⟨_, _, _, rfl⟩))
      refine hKK.out _ _ ((E13.out.box 0 rfl).1) ?_
      clear hKK KK
      obtain ⟨p8, f8, -, -, -⟩ := E13.out.box 4 rfl
      refine wpAnyH_next (i := 3) (by kernel_rfl) rfl (fun KK hKK => ?_)
      go_simp
      have E14 : Hid (EnvB w [(w5.heap.size + 1, .slice ua (len U) uk), (w5.heap.size, .slice qa (len Q) qk), (gr3_5, .slice fo (len F) fc), (gr3_4, .slice tl (len T) tc), (gr1_3, .slice ua (len U) uk), (gr1_2, .slice yo (len Y) yc), (w.heap.size + 1 + 1, .slice none 0 0), (w.heap.size + 1, .slice bo (len K) cb), (w.heap.size, .slice ao (len N) ca)] [(.slice ua (len U) uk, digs U), (.slice qa (len Q) qk, digs Q), (.slice fo (len F) fc, digs F), (.slice tl (len T) tc, digs T), (.slice yo (len Y) yc, digs Y), (.slice ro (len R) rc, digs R), (.slice bo (len K) cb, digs K), (.slice ao (len N) ca, digs N)] _) := Lib.hid ((E13.out.set 4 (.slice ua (len U) uk) rfl ⟨_, _, _, rfl⟩))
      refine hKK.out _ _ ((E14.out.box 0 rfl).1) ?_
      clear hKK KK
      refine wpAnyH_done (by kernel_rfl) ?_ _
      go_wp2_with fail
      have E15 : Hid (EnvB w [(w5.heap.size + 1, .slice ua (len U) uk), (w5.heap.size, .slice qa (len Q) qk), (gr3_5, .slice fo (len F) fc), (gr3_4, .slice tl (len T) tc), (gr1_3, .slice ua (len U) uk), (gr1_2, .slice yo (len Y) yc), (w.heap.size + 1 + 1, .slice none 0 0), (w.heap.size + 1, .slice bo (len K) cb), (w.heap.size, .slice ao (len N) ca)] [(.slice ua (len U) uk, digs U), (.slice qa (len Q) qk, digs Q), (.slice fo (len F) fc, digs F), (.slice tl (len T) tc, digs T), (.slice yo (len Y) yc, digs Y), (.slice ro (len R) rc, digs R), (.slice bo (len K) cb, digs K), (.slice ao (len N) ca, digs N)] ((w7.setCell ⟨gr1_2, 0, none⟩ (.slice yo (len Y) yc)).setCell ⟨gr1_3, 0, none⟩ (.slice ua (len U) uk))) := Lib.hid (E14.out)
      clear p7 f7 p8 f8 E14
      generalize (w7.setCell ⟨gr1_2, 0, none⟩ (.slice yo (len Y) yc)).setCell ⟨gr1_3, 0, none⟩ (.slice ua (len U) uk) = w8 at *
      have bx0 := Lib.hid (E15.out.box 2 rfl)
      have bx1 := Lib.hid (E15.out.box 3 rfl)
      have bx2 := Lib.hid (E15.out.box 1 rfl)
      have bx3 := Lib.hid (E15.out.box 7 rfl)
      refine' wp_region_phase (by kernel_rfl) [0, 1, 2, 3, 4, 5, 6, 7, 8, 9] (by kernel_rfl) #[true, true, true, true, true, true, true, true, true, true, false, false] (by kernel_rfl) 2 (by kernel_rfl) [PEq (.agg #[.slice fo (len F) fc]), PEq (.agg #[.slice tl (len T) tc]), PEq (.agg #[.slice qa (len Q) qk]), PEq (.agg #[.slice bo (len K) cb]), PNum (V), PEq (.agg #[.slice fo (len F) fc]), PEq (.agg #[.slice bo (len K) cb]), PNum (Z), PEq (.agg #[.slice bo (len K) cb]), PNum (S), Fact.none, Fact.none] (List.forall_mem_cons.2 ⟨PEq.st _, List.forall_mem_cons.2 ⟨PEq.st _, List.forall_mem_cons.2 ⟨PEq.st _, List.forall_mem_cons.2 ⟨PEq.st _, List.forall_mem_cons.2 ⟨PNum.st _, List.forall_mem_cons.2 ⟨PEq.st _, List.forall_mem_cons.2 ⟨PEq.st _, List.forall_mem_cons.2 ⟨PNum.st _, List.forall_mem_cons.2 ⟨PEq.st _, List.forall_mem_cons.2 ⟨PNum.st _, List.forall_mem_cons.2 ⟨Fact.none_st, List.forall_mem_cons.2 ⟨Fact.none_st, List.forall_mem_nil _⟩⟩⟩⟩⟩⟩⟩⟩⟩⟩⟩⟩) _ ?hFr8 ?stepr8 ?doner8
      case hFr8 => intro x; simp only [frameL, Act.put, List.setIfInBounds_toArray, List.set_cons_zero, List.set_cons_succ, Nat.zero_add, Nat.reduceAdd]; exact rfl
      case stepr8 =>
        refine List.forall_mem_cons.2 ⟨?_, ?_⟩
        · intro xv bv ev WW hB hd
          refine op_of rfl ?_
          clear hd
          intro KK hKK
          obtain ⟨z, -, -, -, -⟩ := bx0.out.below hB
          go_simp
          exact act_eq (hKK.out (.agg #[.slice fo (len F) fc]) _ (Below.refl _ _) rfl) (by first | rfl | simp [upd])
        refine List.forall_mem_cons.2 ⟨?_, ?_⟩
        · intro xv bv ev WW hB hd
          refine op_of rfl ?_
          clear hd
          intro KK hKK
          obtain ⟨z, -, -, -, -⟩ := bx1.out.below hB
          go_simp
          exact act_eq (hKK.out (.agg #[.slice tl (len T) tc]) _ (Below.refl _ _) rfl) (by first | rfl | simp [upd])
        refine List.forall_mem_cons.2 ⟨?_, ?_⟩
        · intro xv bv ev WW hB hd
          refine op_of rfl ?_
          clear hd
          intro KK hKK
          obtain ⟨z, -, -, -, -⟩ := bx2.out.below hB
          go_simp
          exact act_eq (hKK.out (.agg #[.slice qa (len Q) qk]) _ (Below.refl _ _) rfl) (by first | rfl | simp [upd])
        refine List.forall_mem_cons.2 ⟨?_, ?_⟩
        · intro xv bv ev WW hB hd
          refine op_of rfl ?_
          clear hd
          intro KK hKK
          obtain ⟨z, -, -, -, -⟩ := bx3.out.below hB
          go_simp
          exact act_eq (hKK.out (.agg #[.slice bo (len K) cb]) _ (Below.refl _ _) rfl) (by first | rfl | simp [upd])
        refine List.forall_mem_cons.2 ⟨?_, ?_⟩
        · intro xv bv ev WW hB hd
          refine op_of rfl ?_
          have ed2 : xv 2 = .agg #[.slice qa (len Q) qk] := hd 2 (by kernel_rfl)
          have ed3 : xv 3 = .agg #[.slice bo (len K) cb] := hd 3 (by kernel_rfl)
          clear hd
          intro KK hKK
          go_simp
          refine (CR1.out _ _ ((E15.out.below hB).nt 1 rfl) ((E15.out.below hB).nt 6 rfl)).mono ?_
          rintro e WW' ⟨⟨va, vk, rfl, hv⟩, hb⟩
          (try dsimp only)
          (try simp only [Act.put, List.setIfInBounds_toArray, List.set_cons_zero, List.set_cons_succ])
          exact act_eq (hKK.out _ _ hb ⟨_, _, rfl, hv⟩) (by first | rfl | simp [upd, ed2, ed3])
        refine List.forall_mem_cons.2 ⟨?_, ?_⟩
        · intro xv bv ev WW hB hd
          refine op_of rfl ?_
          clear hd
          intro KK hKK
          obtain ⟨z, -, -, -, -⟩ := bx0.out.below hB
          go_simp
          exact act_eq (hKK.out (.agg #[.slice fo (len F) fc]) _ (Below.refl _ _) rfl) (by first | rfl | simp [upd])
        refine List.forall_mem_cons.2 ⟨?_, ?_⟩
        · intro xv bv ev WW hB hd
          refine op_of rfl ?_
          clear hd
          intro KK hKK
          obtain ⟨z, -, -, -, -⟩ := bx3.out.below hB
          go_simp
          exact act_eq (hKK.out (.agg #[.slice bo (len K) cb]) _ (Below.refl _ _) rfl) (by first | rfl | simp [upd])
        refine List.forall_mem_cons.2 ⟨?_, ?_⟩
        · intro xv bv ev WW hB hd
          refine op_of rfl ?_
          obtain ⟨va, vk, ed4, hv⟩ := (show (PNum (V)) (xv 4) (bv 4) (ev 4) WW from hd 4 (by kernel_rfl))
          have ed5 : xv 5 = .agg #[.slice fo (len F) fc] := hd 5 (by kernel_rfl)
          have ed6 : xv 6 = .agg #[.slice bo (len K) cb] := hd 6 (by kernel_rfl)
          clear hd
          intro KK hKK
          go_simp
          refine (CM1.out _ _ _ hv.out ((E15.out.below hB).nt 2 rfl) ((E15.out.below hB).nt 6 rfl)).mono ?_
          rintro e WW' ⟨⟨za, zk, rfl, hz⟩, hb⟩
          (try dsimp only)
          (try simp only [Act.put, List.setIfInBounds_toArray, List.set_cons_zero, List.set_cons_succ])
          exact act_eq (hKK.out _ _ hb ⟨_, _, rfl, hz⟩) (by first | rfl | simp [upd, ed4, ed5, ed6])
        refine List.forall_mem_cons.2 ⟨?_, ?_⟩
        · intro xv bv ev WW hB hd
          refine op_of rfl ?_
          clear hd
          intro KK hKK
          obtain ⟨z, -, -, -, -⟩ := bx3.out.below hB
          go_simp
          exact act_eq (hKK.out (.agg #[.slice bo (len K) cb]) _ (Below.refl _ _) rfl) (by first | rfl | simp [upd])
        refine List.forall_mem_cons.2 ⟨?_, ?_⟩
        · intro xv bv ev WW hB hd
          refine op_of rfl ?_
          have ed1 : xv 1 = .agg #[.slice tl (len T) tc] := hd 1 (by kernel_rfl)
          obtain ⟨za, zk, ed7, hz⟩ := (show (PNum (Z)) (xv 7) (bv 7) (ev 7) WW from hd 7 (by kernel_rfl))
          have ed8 : xv 8 = .agg #[.slice bo (len K) cb] := hd 8 (by kernel_rfl)
          clear hd
          intro KK hKK
          go_simp
          refine (CS1.out _ _ _ ((E15.out.below hB).nt 3 rfl) hz.out ((E15.out.below hB).nt 6 rfl)).mono ?_
          rintro e WW' ⟨⟨sa, sk, rfl, hs⟩, hb⟩
          (try dsimp only)
          (try simp only [Act.put, List.setIfInBounds_toArray, List.set_cons_zero, List.set_cons_succ])
          exact act_eq (hKK.out _ _ hb ⟨_, _, rfl, hs⟩) (by first | rfl | simp [upd, ed1, ed7, ed8])
        exact List.forall_mem_nil _
      intro xv bv ev w9 hB hR hO
      have ed0 : xv 0 = .agg #[.slice fo (len F) fc] := hR 0 (by kernel_rfl)
      have ed1 : xv 1 = .agg #[.slice tl (len T) tc] := hR 1 (by kernel_rfl)
      have ed2 : xv 2 = .agg #[.slice qa (len Q) qk] := hR 2 (by kernel_rfl)
      have ed3 : xv 3 = .agg #[.slice bo (len K) cb] := hR 3 (by kernel_rfl)
      obtain ⟨va, vk, ed4, hv⟩ := (show (PNum (V)) (xv 4) (bv 4) (ev 4) w9 from hR 4 (by kernel_rfl))
      have ed5 : xv 5 = .agg #[.slice fo (len F) fc] := hR 5 (by kernel_rfl)
      have ed6 : xv 6 = .agg #[.slice bo (len K) cb] := hR 6 (by kernel_rfl)
      obtain ⟨za, zk, ed7, hz⟩ := (show (PNum (Z)) (xv 7) (bv 7) (ev 7) w9 from hR 7 (by kernel_rfl))
      have ed8 : xv 8 = .agg #[.slice bo (len K) cb] := hR 8 (by kernel_rfl)
      obtain ⟨sa, sk, ed9, hs⟩ := (show (PNum (S)) (xv 9) (bv 9) (ev 9) w9 from hR 9 (by kernel_rfl))
      simp only [ed0, ed1, ed2, ed3, ed4, ed5, ed6, ed7, ed8, ed9]
      have E16 : Hid (EnvB w [(w5.heap.size + 1, .slice ua (len U) uk), (w5.heap.size, .slice qa (len Q) qk), (gr3_5, .slice fo (len F) fc), (gr3_4, .slice tl (len T) tc), (gr1_3, .slice ua (len U) uk), (gr1_2, .slice yo (len Y) yc), (w.heap.size + 1 + 1, .slice none 0 0), (w.heap.size + 1, .slice bo (len K) cb), (w.heap.size, .slice ao (len N) ca)] [(.slice sa (len S) sk, digs S), (.slice za (len Z) zk, digs Z), (.slice va (len V) vk, digs V), (.slice ua (len U) uk, digs U), (.slice qa (len Q) qk, digs Q), (.slice fo (len F) fc, digs F), (.slice tl (len T) tc, digs T), (.slice yo (len Y) yc, digs Y), (.slice ro (len R) rc, digs R), (.slice bo (len K) cb, digs K), (.slice ao (len N) ca, digs N)] _) := Lib.hid (((((E15.out.below hB).numN (hv.out : Nt _ _ (V))).numN (hz.out : Nt _ _ (Z))).numN (hs.out : Nt _ _ (S))))
      clear E15 E12 E13 hB hR hO bx0 bx1 bx2 bx3 ed0 ed1 ed2 ed3 ed4 ed5 ed6 ed7 ed8 ed9 hv hz hs
      obtain ⟨p9, f9, -, -, -⟩ := E16.out.box 3 rfl
      refine wpAny_next (i := 10) (by kernel_rfl) rfl (fun KK hKK => ?_)
      go_simp
      have E17 : Hid (EnvB w [(w5.heap.size + 1, .slice ua (len U) uk), (w5.heap.size, .slice qa (len Q) qk), (gr3_5, .slice fo (len F) fc), (gr3_4, .slice fo (len F) fc), (gr1_3, .slice ua (len U) uk), (gr1_2, .slice yo (len Y) yc), (w.heap.size + 1 + 1, .slice none 0 0), (w.heap.size + 1, .slice bo (len K) cb), (w.heap.size, .slice ao (len N) ca)] [(.slice sa (len S) sk, digs S), (.slice za (len Z) zk, digs Z), (.slice va (len V) vk, digs V), (.slice ua (len U) uk, digs U), (.slice qa (len Q) qk, digs Q), (.slice fo (len F) fc, digs F), (.slice tl (len T) tc, digs T), (.slice yo (len Y) yc, digs Y), (.slice ro (len R) rc, digs R), (.slice bo (len K) cb, digs K), (.slice ao (len N) ca, digs N)] _) := Lib.hid ((E16.out.set 3 (.slice fo (len F) fc) rfl ⟨_, _, _, rfl⟩))
      refine hKK.out _ _ ?_
      clear hKK KK
      obtain ⟨p10, f10, -, -, -⟩ := E17.out.box 2 rfl
      refine wpAny_next (i := 11) (by kernel_rfl) rfl (fun KK hKK => ?_)
      go_simp
      have E18 : Hid (EnvB w [(w5.heap.size + 1, .slice ua (len U) uk), (w5.heap.size, .slice qa (len Q) qk), (gr3_5, .slice sa (len S) sk), (gr3_4, .slice fo (len F) fc), (gr1_3, .slice ua (len U) uk), (gr1_2, .slice yo (len Y) yc), (w.heap.size + 1 + 1, .slice none 0 0), (w.heap.size + 1, .slice bo (len K) cb), (w.heap.size, .slice ao (len N) ca)] [(.slice sa (len S) sk, digs S), (.slice za (len Z) zk, digs Z), (.slice va (len V) vk, digs V), (.slice ua (len U) uk, digs U), (.slice qa (len Q) qk, digs Q), (.slice fo (len F) fc, digs F), (.slice tl (len T) tc, digs T), (.slice yo (len Y) yc, digs Y), (.slice ro (len R) rc, digs R), (.slice bo (len K) cb, digs K), (.slice ao (len N) ca, digs N)] _) := Lib.hid ((E17.out.set 2 (.slice sa (len S) sk) rfl ⟨_, _, _, rfl⟩))
      refine hKK.out _ _ ?_
      clear hKK KK
      refine wpAny_done (by kernel_rfl) ?_ _
      have E19 : Hid (EnvB w [(w5.heap.size + 1, .slice ua (len U) uk), (w5.heap.size, .slice qa (len Q) qk), (gr3_5, .slice sa (len S) sk), (gr3_4, .slice fo (len F) fc), (gr1_3, .slice ua (len U) uk), (gr1_2, .slice yo (len Y) yc), (w.heap.size + 1 + 1, .slice none 0 0), (w.heap.size + 1, .slice bo (len K) cb), (w.heap.size, .slice ao (len N) ca)] [(.slice sa (len S) sk, digs S), (.slice za (len Z) zk, digs Z), (.slice va (len V) vk, digs V), (.slice ua (len U) uk, digs U), (.slice qa (len Q) qk, digs Q), (.slice fo (len F) fc, digs F), (.slice tl (len T) tc, digs T), (.slice yo (len Y) yc, digs Y), (.slice ro (len R) rc, digs R), (.slice bo (len K) cb, digs K), (.slice ao (len N) ca, digs N)] _) := Lib.hid (E18.out)
      have EZ := Lib.hid E19.out
      go_wp2
      go_roundg (U)
      case rel => exact ⟨Y, U, F, S, yo, ua, fo, sa, yc, uk, fc, sk, Lib.hid ⟨EZ.out.1, EZ.out.2.1.2.2.2.2, ⟨EZ.out.sl 0 rfl, ⟨EZ.out.sl 5 rfl, ⟨EZ.out.sl 3 rfl, ⟨EZ.out.sl 7 rfl, ⟨EZ.out.sl 9 rfl, ⟨EZ.out.sl 10 rfl, trivial⟩⟩⟩⟩⟩⟩⟩, HK2⟩
      case measure => exact HM.out
end Go.Proofs.Ythphmgdmhlimjaa

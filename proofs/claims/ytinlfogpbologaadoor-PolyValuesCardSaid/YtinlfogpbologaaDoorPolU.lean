/- specieref13: Add. -/
import Derived.Test.YtinlfogpbologaaDoorPolT
namespace Go.Proofs.YtinlfogpbologaaDoor
open Go.RowKit DivMath WordMath
set_option linter.unusedVariables false
set_option linter.unusedSimpArgs false
set_option maxRecDepth 100000 in
set_option maxHeartbeats 300000 in
theorem rAdd_c {D : Nat → Prop} (q : Nat) (a b : List Nat) {xa ya : Option Addr} {xk yk : Nat} {w : World} (hx : Fct.at w D (.rw (.slice xa a.length xk) a.length 1 (ncl a))) (hy : Fct.at w D (.rw (.slice ya b.length yk) b.length 1 (ncl b))) (hq : 0 < q) (hqT : (q : Int) < Top) (ha0 : ∀ c ∈ a, c < q) (hb0 : ∀ c ∈ b, c < q) (hla : a.length ≤ 1000) (hlb : b.length ≤ 1000) :
    Calls Tryd.prog 26 #[.int .i64 (q : Nat), .slice xa a.length xk, .slice ya b.length yk] w fun e w' => RetI (fun b => w.heap.size ≤ b) (trimN (addL q a b)) e w' ∧ Below w.heap.size w w' := by
  have E0 : Hid (Env D w [] [.rw (.slice ya b.length yk) b.length 1 (ncl b), .rw (.slice xa a.length xk) a.length 1 (ncl a)] w) := Lib.hid (((Env.start D w).arg (.rw (.slice xa a.length xk) a.length 1 (ncl a)) hx).arg (.rw (.slice ya b.length yk) b.length 1 (ncl b)) hy)
  clear hx hy
  go_enter Tryd.func26, Tryd.ntmps26
  have ha := Lib.hid ha0
  have hb := Lib.hid hb0
  clear ha0 hb0
  have HT := Lib.hid hqT
  have hq9 : (q : Int) ≤ 2305843009213693951 := by unfold Top at hqT; omega
  clear hqT
  have hq0 : ¬ (q = 0) := by omega
  have hqz : ((q : Int) == 0) = false := beq_eq_false_iff_ne.2 (by omega)
  obtain ⟨n, hn⟩ : ∃ n, n = max a.length b.length := ⟨_, rfl⟩
  have hmx : max (a.length : Int) (b.length : Int) = (n : Int) := by omega
  have hn9 : n ≤ 1000 := by omega
  have HN := Lib.hid hn
  clear hn
  go_wp2_with fail
  go_loopg [8, 7] (n) (fun gk s8 s7 wr => ∃ (k : Nat) (sg : List Bx) (cs : List Value) (va : Option Addr) (vk : Nat) (o : List Nat), s8 = .int .i64 (k : Int) ∧ s7 = .slice va (nl o).length vk ∧ Hid (Env D w (sg) [.rw (.slice ya b.length yk) b.length 1 (ncl b), .rw (.slice xa a.length xk) a.length 1 (ncl a)] wr) ∧ Hid (OI sg cs (.slice va (nl o).length vk) (nl o)) ∧ Hid ((k ≤ n ∧ gk = n - k) ∧ o = (addL q a b).take k))
  case atStart => exact ⟨0, [], [], none, 0, [], rfl, rfl, Lib.hid (E0.out.cast (by simp)), Lib.hid OI.nlnil, Lib.hid ⟨⟨Nat.zero_le _, rfl⟩, rfl⟩⟩
  case round =>
    clear E0
    obtain ⟨k, sg, cs, va, vk, o, rfl, rfl, EL, hO, HA⟩ := hrel
    obtain ⟨⟨b1, b2⟩, b3⟩ := HA.out
    have HP := Lib.hid b3
    clear b3 HA
    by_cases hw : k = n
    rotate_left
    · have hk : k < n := by omega
      have t8 : decide ((k : Int) < (n : Int)) = true := decide_eq_true (by omega)
      have t9 : decide (k < n) = true := decide_eq_true hk
      clear hw
      have hk9 : (k : Int) ≤ 999 := by omega
      have HOL : Hid ((nl o).length + 1 ≤ 1000000) := Lib.hid (by rw [nl_len, HP.out]; simp; omega)
      obtain ⟨u, hu⟩ : ∃ u, a.getD k 0 = u := ⟨_, rfl⟩
      obtain ⟨v, hv⟩ : ∃ v, b.getD k 0 = v := ⟨_, rfl⟩
      have huq : (u : Int) < (q : Int) := by rw [← hu]; exact Int.ofNat_lt.2 (getD_lt hq ha.out k)
      have hvq : (v : Int) < (q : Int) := by rw [← hv]; exact Int.ofNat_lt.2 (getD_lt hq hb.out k)
      have HNX := Lib.hid (addL_take (q := q) (by rw [← HN.out]; exact hk) hu hv)
      have HU := Lib.hid hu
      have HV := Lib.hid hv
      clear hu hv
      have ew : wrap64 ((u : Int) + (v : Int)) = ((u + v : Nat) : Int) := by rw [IntWalk.wrap64_in _ (by omega)]; rfl
      go_wp2_with fail
      refine (rAt_c a k (EL.out.fc 1 rfl) HU.out (by omega) (by omega)).mono ?_
      rintro e w1 ⟨rfl, hb⟩
      have E1 : Hid (Env D w (sg) [.rw (.slice ya b.length yk) b.length 1 (ncl b), .rw (.slice xa a.length xk) a.length 1 (ncl a)] w1) := Lib.hid (EL.out.below hb)
      clear EL hb
      clear hmx
      go_wp2_with fail
      refine (rAt_c b k (E1.out.fc 0 rfl) HV.out (by omega) (by omega)).mono ?_
      rintro e w2 ⟨rfl, hb⟩
      have E2 : Hid (Env D w (sg) [.rw (.slice ya b.length yk) b.length 1 (ncl b), .rw (.slice xa a.length xk) a.length 1 (ncl a)] w2) := Lib.hid (E1.out.below hb)
      clear E1 hb
      have E3 : Hid (Env D w ((w2.heap.size, 3, [.int .i64 (((u : Int) + (v : Int)) % (q : Int))]) :: sg) [.rw (.slice ya b.length yk) b.length 1 (ncl b), .rw (.slice xa a.length xk) a.length 1 (ncl a)] _) := Lib.hid ((E2.out.push 3 [.int .i64 (((u : Int) + (v : Int)) % (q : Int))] (w2.heap.size) (by simp)))
      go_wp2_with (at_builtin; refine wpl_app1 (c := 1) tiI rfl _ _ rfl E3.out (A := [(w2.heap.size, 3, [.int .i64 (((u : Int) + (v : Int)) % (q : Int))])]) (sg := sg) (B' := []) (F := ((w2.heap.size, 3, [.int .i64 (((u : Int) + (v : Int)) % (q : Int))]) :: sg)) (by simp) (hO.out.os rfl) rfl rfl (SrcN.int (E3.out.bx 0 rfl)) HOL.out ?_)
      intro zg zp zc w3 zH zT zE
      have zO := Lib.hid (OI.app (x := (((u : Int) + (v : Int)) % (q : Int))) (g' := zg) (cs' := zc) (cap' := zp) hO.out rfl (by simpa using zH.out) (by simpa using zT.out))
      have E4 : Hid (Env D w ((w2.heap.size, 3, [.int .i64 (((u : Int) + (v : Int)) % (q : Int))]) :: [(zg, 3, zc)]) [.rw (.slice ya b.length yk) b.length 1 (ncl b), .rw (.slice xa a.length xk) a.length 1 (ncl a)] w3) := Lib.hid (zE.out.cast (by simp))
      clear E2 E3 zE zH zT hO
      have EZ := Lib.hid (E4.out.drop)
      have OZ := Lib.hid (OI.snoc (x := ((u + v) % q)) (Lib.hid (by have h := zO.out; simpa using h) : Hid (OI [(zg, 3, zc)] zc (.slice (some ⟨zg, 0, none⟩) ((nl o).length + 1) zp) (nl o ++ [(((u + v) % q : Nat) : Int)]))).out)
      go_wp2
      go_roundg (n - (k + 1))
      case rel => exact ⟨k + 1, [(zg, 3, zc)], zc, some ⟨zg, 0, none⟩, zp, o ++ [((u + v) % q)], rfl, OI.v, EZ, OZ, Lib.hid ⟨⟨by omega, rfl⟩, by rw [HNX.out, HP.out]⟩⟩
      case measure => exact by omega
    have t8 : decide ((k : Int) < (n : Int)) = false := decide_eq_false (by omega)
    have t9 : decide (k < n) = false := decide_eq_false (by omega)
    have HD : Hid (o = addL q a b) := Lib.hid (by rw [HP.out, hw, HN.out, ← addL_len q, List.take_length])
    have HY2 := Lib.hid hw
    clear hw
    have hol : o.length ≤ 2000 := by rw [HD.out, addL_len]; omega
    have tc := rTrim_c (xa := va) (xk := vk) (w := wr) o (by have h := hO.out.rwN EL.out (by intro p hp; exact hp); rw [nl_len] at h; exact h) hol
    rw [← nl_len o] at tc
    have TC := Lib.hid tc
    clear tc hol
    have hsz := Lib.hid EL.out.bel.size
    go_wp2_with fail
    refine (TC.out).mono ?_
    rintro e w1 ⟨⟨za, zk, rfl, zh⟩, hb⟩
    have E1 : Hid (Env D w (sg) [.rw (.slice ya b.length yk) b.length 1 (ncl b), .rw (.slice xa a.length xk) a.length 1 (ncl a)] w1) := Lib.hid (EL.out.below hb)
    clear EL hb
    have hbel := Lib.hid E1.out.bel
    go_wp2
    go_ret
    rw [← HD.out]
    exact ⟨⟨za, zk, rfl, Lib.hid (Rw.from zh.out hsz.out)⟩, hbel.out⟩
end Go.Proofs.YtinlfogpbologaaDoor

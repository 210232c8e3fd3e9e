/- poly: the reference: Div. -/
import Derived.Test.YteipbcpnnojclaaDoorPolDa
import Derived.Test.YteipbcpnnojclaaDoorPolCa
import Derived.Test.YteipbcpnnojclaaDoorPolDb
namespace Go.Proofs.YteipbcpnnojclaaDoor
open Go.RowKit DivMath WordMath
set_option linter.unusedVariables false
set_option linter.unusedSimpArgs false
theorem OI.box {sg : List Bx} {cs : List Value} {va : Option Addr} {vk : Nat} {o : List Nat} (h : OI sg cs (.slice va o.length vk) (nl o)) (h0 : 0 < o.length) : ∃ g rs, sg = [(g, 3, ncl o ++ rs)] ∧ va = some ⟨g, 0, none⟩ ∧ o.length ≤ vk ∧ vk ≤ 9223372036854775807 := by
  obtain ⟨h, ht⟩ := h
  rw [nl_len] at h ht
  rcases h with ⟨_, _, _, hz⟩ | ⟨g, cap, e1, e2, k1, k2, k3⟩
  · omega
  · injection e2 with e3 _ e4
    subst e4
    refine ⟨g, cs.drop o.length, ?_, e3, k1, k2⟩
    rw [e1]
    congr 3
    conv => lhs; rw [← List.take_append_drop o.length cs, ht]
    rfl
theorem Env.mid {D0 : Nat → Prop} {w W : World} {p r : Bx} {F : List Bx} {G : List Fct} (h : Env D0 w (p :: r :: F) G W) : Env D0 w (p :: F) G W :=
  ⟨h.bel, ⟨h.box.1, fun q hq => h.box.2.1 q (List.mem_cons_of_mem _ hq), h.box.2.2.2.2⟩, h.fct.turn (Nat.le_refl _) (fun b _ hd => ⟨fun q hq => hd.1 q (by rcases List.mem_cons.1 hq with h | h; (· rw [h]; simp); exact List.mem_cons_of_mem _ (List.mem_cons_of_mem _ h)), hd.2⟩) (fun _ _ _ _ => rfl)⟩
theorem RDiv.less {q : Nat} (hq : 1 < q) {b : List Nat} (hb : 0 < b.length) {lead n na : Nat} {F : List Nat × List Nat} {rest quo : List Nat} (hl : b.getD (b.length - 1) 0 * lead % q = 1 % q) (h : RDiv q b lead n na F rest quo) (hs : b.length ≤ rest.length) {k c : Nat} (hk : k = rest.length - b.length) (hc : c = rest.getD (rest.length - 1) 0 * lead % q) : (trimN (subL q b c k b.length rest)).length < rest.length := by
  have hX := subL_len q b c k b.length rest
  have htop := subL_top hq (r := rest) (i := k) hb h.rq (by omega) hl
  rw [show k + b.length - 1 = rest.length - 1 by omega, ← hc] at htop
  have := trimN_short (s := rest.length - 1) (by rw [hX]; omega) htop
  omega
/-- two rows of residues -/
def RetDW (x y : List Nat) (e : Ending) (W : World) : Prop := ∃ xa xk ya yk, e = .returned (.tuple #[.slice xa x.length xk, .slice ya y.length yk]) ∧ Hid (Rw W (fun _ => True) (.slice xa x.length xk) x.length 1 (ncl x)) ∧ Hid (Rw W (fun _ => True) (.slice ya y.length yk) y.length 1 (ncl y))
set_option maxRecDepth 100000 in
set_option maxHeartbeats 2000000 in
theorem rTrimO_c {D : Nat → Prop} (l : List Nat) {xa : Option Addr} {xk : Nat} {w : World} (hx : Fct.at w D (.rw (.slice xa l.length xk) l.length 1 (ncl l))) (hm : l.length ≤ 2000) :
    Calls Tryd.prog 65 #[.slice xa l.length xk] w fun e w' => (∃ sg cs va vk, e = .returned (.slice va (trimN l).length vk) ∧ Hid (OI sg cs (.slice va (trimN l).length vk) (nl (trimN l))) ∧ Hid (HeldF w.heap.size sg w')) ∧ Below w.heap.size w w' := by
  have E0 : Hid (Env D w [] [.rw (.slice xa l.length xk) l.length 1 (ncl l)] w) := Lib.hid ((Env.start D w).arg (.rw (.slice xa l.length xk) l.length 1 (ncl l)) hx)
  clear hx
  go_enter Tryd.func65, Tryd.ntmps65
  go_wp2_with fail
  go_loopg [3] (l.length) (fun gk s3 wr => ∃ (n : Nat), s3 = .int .i64 (n : Int) ∧ Hid (Env D w [] [.rw (.slice xa l.length xk) l.length 1 (ncl l)] wr) ∧ Hid ((n ≤ l.length ∧ gk = n) ∧ trimN (l.take n) = trimN l))
  case atStart => exact ⟨l.length, rfl, Lib.hid E0.out, Lib.hid ⟨⟨Nat.le_refl _, rfl⟩, by rw [List.take_length]⟩⟩
  case round =>
    clear E0
    obtain ⟨n, rfl, EL, HA⟩ := hrel
    obtain ⟨⟨a1, a2⟩, a3⟩ := HA.out
    have HS := Lib.hid a3
    clear a3 HA
    have hn9 : (n : Int) ≤ 2000 := by omega
    by_cases hy : n = 0
    · have d2 : decide ((0 : Int) < (n : Int)) = false := decide_eq_false (by omega)
      have d2n : decide (0 < n) = false := decide_eq_false (by omega)
      have HT : Hid (l.take n = trimN l) := Lib.hid (by rw [← HS.out, hy]; rfl)
      have HY := Lib.hid hy
      clear hy
      have HN := Lib.hid a1
      clear a2
      go_wp2_with fail
      go_loopg [5, 4] (n) (fun gk s5 s4 wr => ∃ (k : Nat) (sg : List Bx) (cs : List Value) (va : Option Addr) (vk : Nat) (o : List Nat), s5 = .int .i64 (k : Int) ∧ s4 = .slice va (nl o).length vk ∧ Hid (Env D w (sg) [.rw (.slice xa l.length xk) l.length 1 (ncl l)] wr) ∧ Hid (OI sg cs (.slice va (nl o).length vk) (nl o)) ∧ Hid ((k ≤ n ∧ gk = n - k) ∧ o = l.take k))
      case atStart => exact ⟨0, [], [], none, 0, [], rfl, rfl, Lib.hid (EL.out.cast (by simp)), Lib.hid OI.nlnil, Lib.hid ⟨⟨Nat.zero_le _, rfl⟩, rfl⟩⟩
      case round =>
        clear EL
        obtain ⟨k, sg, cs, va, vk, o, rfl, rfl, EL, hO, HA⟩ := hrel
        obtain ⟨⟨b1, b2⟩, b3⟩ := HA.out
        have HP := Lib.hid b3
        clear b3 HA
        by_cases hw : k = n
        rotate_left
        · have hk : k < n := by omega
          have hkl : k < l.length := by omega
          have t8 : decide ((k : Int) < (n : Int)) = true := decide_eq_true (by omega)
          have t9 : decide (k < n) = true := decide_eq_true hk
          clear hw
          have hol : (nl o).length + 1 ≤ 1000000 := by rw [nl_len, HP.out]; simp; omega
          have HOL := Lib.hid hol
          clear hol
          obtain ⟨xab, xao, rfl⟩ := Rw.addr (EL.out.fc 0 rfl) (by omega)
          have E1 : Hid (Env D w (sg) [.ce xab (xao + k) (.int .i64 (l[k] : Nat)), .rw (.slice (some ⟨xab, xao, none⟩) l.length xk) l.length 1 (ncl l)] _) := Lib.hid (EL.out.elN 0 rfl rfl (k) hkl)
          clear EL
          have p0 := (E1.out.fc 0 rfl).2
          have E2 : Hid (Env D w ((wr.heap.size, 3, [.int .i64 (l[k] : Nat)]) :: sg) [.ce xab (xao + k) (.int .i64 (l[k] : Nat)), .rw (.slice (some ⟨xab, xao, none⟩) l.length xk) l.length 1 (ncl l)] _) := Lib.hid ((E1.out.push 3 [.int .i64 (l[k] : Nat)] (wr.heap.size) (by simp)))
          go_wp2_with (at_builtin; refine wpl_app1 (c := 1) tiI rfl _ _ rfl E2.out (A := [(wr.heap.size, 3, [.int .i64 (l[k] : Nat)])]) (sg := sg) (B' := []) (F := ((wr.heap.size, 3, [.int .i64 (l[k] : Nat)]) :: sg)) (by simp) (hO.out.os rfl) rfl rfl (SrcN.int (E2.out.bx 0 rfl)) HOL.out ?_)
          intro zg zp zc w1 zH zT zE
          have zO := Lib.hid (OI.app (x := ((l[k] : Nat) : Int)) (g' := zg) (cs' := zc) (cap' := zp) hO.out rfl (by simpa using zH.out) (by simpa using zT.out))
          have E3 : Hid (Env D w ((wr.heap.size, 3, [.int .i64 (l[k] : Nat)]) :: [(zg, 3, zc)]) [.ce xab (xao + k) (.int .i64 (l[k] : Nat)), .rw (.slice (some ⟨xab, xao, none⟩) l.length xk) l.length 1 (ncl l)] w1) := Lib.hid (zE.out.cast (by simp))
          clear p0 E1 E2 zE zH zT hO
          have EZ := Lib.hid ((E3.out.drop).forget)
          have OZ := Lib.hid (OI.snoc (x := l[k]) zO.out)
          go_wp2
          go_roundg (n - (k + 1))
          case rel => exact ⟨k + 1, [(zg, 3, zc)], zc, some ⟨zg, 0, none⟩, zp, o ++ [l[k]], rfl, OI.v, EZ, OZ, Lib.hid ⟨⟨by omega, rfl⟩, by rw [HP.out, List.take_succ_eq_append_getElem hkl]⟩⟩
          case measure => exact by omega
        have t8 : decide ((k : Int) < (n : Int)) = false := decide_eq_false (by omega)
        have t9 : decide (k < n) = false := decide_eq_false (by omega)
        have HD : Hid (o = trimN l) := Lib.hid (by rw [HP.out, hw, HT.out])
        have HY2 := Lib.hid hw
        clear hw
        have hbox := Lib.hid EL.out.box
        have hbel := Lib.hid EL.out.bel
        go_wp2
        go_ret
        rw [nl_len] at hO
        exact ⟨⟨sg, cs, va, vk, by rw [← HD.out, nl_len]; rfl, by rw [← HD.out]; exact hO, hbox⟩, hbel.out⟩
    · have d2 : decide ((0 : Int) < (n : Int)) = true := decide_eq_true (by omega)
      have d2n : decide (0 < n) = true := decide_eq_true (by omega)
      have d4 : wrap64 ((n : Int) - 1) = ((n - 1 : Nat) : Int) := by rw [IntWalk.wrap64_in _ (by omega)]; omega
      have d5 : (n : Int) - 1 = ((n - 1 : Nat) : Int) := by omega
      have hk : n - 1 < l.length := by omega
      obtain ⟨xab, xao, rfl⟩ := Rw.addr (EL.out.fc 0 rfl) (by omega)
      have E1 : Hid (Env D w [] [.ce xab (xao + (n - 1)) (.int .i64 (l[n - 1] : Nat)), .rw (.slice (some ⟨xab, xao, none⟩) l.length xk) l.length 1 (ncl l)] _) := Lib.hid (EL.out.elN 0 rfl rfl (n - 1) hk)
      clear EL
      have u0 := (E1.out.fc 0 rfl).2
      by_cases hz : l[n - 1] = 0
      · have HR : Hid (trimN (l.take (n - 1)) = trimN l) := Lib.hid (by rw [← trimN_zero (by omega) a1 hz]; exact HS.out)
        have d3 : ((l[n - 1] : Nat) : Int) = 0 := by omega
        have d6 : (((l[n - 1] : Nat) : Int) == 0) = true := by simp; omega
        have d7 : (l[n - 1] == 0) = true := by simp; omega
        clear hz d3
        have EZ := Lib.hid (E1.out.forget)
        go_wp2
        go_roundg (n - 1)
        case rel => exact ⟨n - 1, rfl, EZ, Lib.hid ⟨⟨by omega, rfl⟩, HR.out⟩⟩
        case measure => exact by omega
      · have HT : Hid (l.take n = trimN l) := Lib.hid (by rw [← HS.out, trimN_some (by omega) a1 hz])
        have d6 : (((l[n - 1] : Nat) : Int) == 0) = false := by simp; omega
        have d7 : (l[n - 1] == 0) = false := by simp; omega
        clear hz
        have HN := Lib.hid a1
        clear a2
        go_wp2_with fail
        go_loopg [5, 4] (n) (fun gk s5 s4 wr => ∃ (k : Nat) (sg : List Bx) (cs : List Value) (va : Option Addr) (vk : Nat) (o : List Nat), s5 = .int .i64 (k : Int) ∧ s4 = .slice va (nl o).length vk ∧ Hid (Env D w (sg) [.ce xab (xao + (n - 1)) (.int .i64 (l[n - 1] : Nat)), .rw (.slice (some ⟨xab, xao, none⟩) l.length xk) l.length 1 (ncl l)] wr) ∧ Hid (OI sg cs (.slice va (nl o).length vk) (nl o)) ∧ Hid ((k ≤ n ∧ gk = n - k) ∧ o = l.take k))
        case atStart => exact ⟨0, [], [], none, 0, [], rfl, rfl, Lib.hid (E1.out.cast (by simp)), Lib.hid OI.nlnil, Lib.hid ⟨⟨Nat.zero_le _, rfl⟩, rfl⟩⟩
        case round =>
          clear u0 E1
          obtain ⟨k, sg, cs, va, vk, o, rfl, rfl, EL, hO, HA⟩ := hrel
          obtain ⟨⟨b1, b2⟩, b3⟩ := HA.out
          have HP := Lib.hid b3
          clear b3 HA
          by_cases hw : k = n
          rotate_left
          · have hk : k < n := by omega
            have hkl : k < l.length := by omega
            have t8 : decide ((k : Int) < (n : Int)) = true := decide_eq_true (by omega)
            have t9 : decide (k < n) = true := decide_eq_true hk
            clear hw
            have hol : (nl o).length + 1 ≤ 1000000 := by rw [nl_len, HP.out]; simp; omega
            have HOL := Lib.hid hol
            clear hol
            have E2 : Hid (Env D w (sg) [.ce xab (xao + k) (.int .i64 (l[k] : Nat)), .ce xab (xao + (n - 1)) (.int .i64 (l[n - 1] : Nat)), .rw (.slice (some ⟨xab, xao, none⟩) l.length xk) l.length 1 (ncl l)] _) := Lib.hid (EL.out.elN 1 rfl rfl (k) hkl)
            clear EL
            have p0 := (E2.out.fc 0 rfl).2
            have E3 : Hid (Env D w ((wr.heap.size, 3, [.int .i64 (l[k] : Nat)]) :: sg) [.ce xab (xao + k) (.int .i64 (l[k] : Nat)), .ce xab (xao + (n - 1)) (.int .i64 (l[n - 1] : Nat)), .rw (.slice (some ⟨xab, xao, none⟩) l.length xk) l.length 1 (ncl l)] _) := Lib.hid ((E2.out.push 3 [.int .i64 (l[k] : Nat)] (wr.heap.size) (by simp)))
            go_wp2_with (at_builtin; refine wpl_app1 (c := 1) tiI rfl _ _ rfl E3.out (A := [(wr.heap.size, 3, [.int .i64 (l[k] : Nat)])]) (sg := sg) (B' := []) (F := ((wr.heap.size, 3, [.int .i64 (l[k] : Nat)]) :: sg)) (by simp) (hO.out.os rfl) rfl rfl (SrcN.int (E3.out.bx 0 rfl)) HOL.out ?_)
            intro zg zp zc w1 zH zT zE
            have zO := Lib.hid (OI.app (x := ((l[k] : Nat) : Int)) (g' := zg) (cs' := zc) (cap' := zp) hO.out rfl (by simpa using zH.out) (by simpa using zT.out))
            have E4 : Hid (Env D w ((wr.heap.size, 3, [.int .i64 (l[k] : Nat)]) :: [(zg, 3, zc)]) [.ce xab (xao + k) (.int .i64 (l[k] : Nat)), .ce xab (xao + (n - 1)) (.int .i64 (l[n - 1] : Nat)), .rw (.slice (some ⟨xab, xao, none⟩) l.length xk) l.length 1 (ncl l)] w1) := Lib.hid (zE.out.cast (by simp))
            clear p0 E2 E3 zE zH zT hO
            have EZ := Lib.hid ((E4.out.drop).forget)
            have OZ := Lib.hid (OI.snoc (x := l[k]) zO.out)
            go_wp2
            go_roundg (n - (k + 1))
            case rel => exact ⟨k + 1, [(zg, 3, zc)], zc, some ⟨zg, 0, none⟩, zp, o ++ [l[k]], rfl, OI.v, EZ, OZ, Lib.hid ⟨⟨by omega, rfl⟩, by rw [HP.out, List.take_succ_eq_append_getElem hkl]⟩⟩
            case measure => exact by omega
          have t8 : decide ((k : Int) < (n : Int)) = false := decide_eq_false (by omega)
          have t9 : decide (k < n) = false := decide_eq_false (by omega)
          have HD : Hid (o = trimN l) := Lib.hid (by rw [HP.out, hw, HT.out])
          have HY2 := Lib.hid hw
          clear hw
          have hbox := Lib.hid EL.out.box
          have hbel := Lib.hid EL.out.bel
          go_wp2
          go_ret
          rw [nl_len] at hO
          exact ⟨⟨sg, cs, va, vk, by rw [← HD.out, nl_len]; rfl, by rw [← HD.out]; exact hO, hbox⟩, hbel.out⟩
theorem rTrimO_at {l : List Nat} {n : Nat} (hl : l.length = n) {xa : Option Addr} {xk : Nat} {w : World} (hx : Rw w (fun _ => True) (.slice xa l.length xk) l.length 1 (ncl l)) (hm : n ≤ 2000) :
    Calls Tryd.prog 65 #[.slice xa n xk] w fun e w' => (∃ sg cs va vk, e = .returned (.slice va (trimN l).length vk) ∧ Hid (OI sg cs (.slice va (trimN l).length vk) (nl (trimN l))) ∧ Hid (HeldF w.heap.size sg w')) ∧ Below w.heap.size w w' := by
  subst hl; exact rTrimO_c (D := fun _ => True) l hx hm
theorem rTrim_at {l : List Nat} {n : Nat} (hl : l.length = n) {xa : Option Addr} {xk : Nat} {w : World} (hx : Rw w (fun _ => True) (.slice xa l.length xk) l.length 1 (ncl l)) (hm : n ≤ 2000) :
    Calls Tryd.prog 65 #[.slice xa n xk] w fun e w' => RetI (fun b => w.heap.size ≤ b) (trimN l) e w' ∧ Below w.heap.size w w' := by
  subst hl; exact rTrim_c (D := fun _ => True) l hx hm
set_option maxRecDepth 100000 in
set_option maxHeartbeats 4000000 in
theorem rDiv_c {D : Nat → Prop} (q : Nat) (a b : List Nat) {xa ya : Option Addr} {xk yk : Nat} {w : World} (hx : Fct.at w D (.rw (.slice xa a.length xk) a.length 1 (ncl a))) (hy : Fct.at w D (.rw (.slice ya b.length yk) b.length 1 (ncl b))) (hq1 : 1 < q) (hqT : (q : Int) < Top) (ha0 : ∀ c ∈ a, c < q) (hb0 : ∀ c ∈ b, c < q) (hla : a.length ≤ 1000) (hlb : b.length ≤ 1000) (hz : 0 < b.length) (hg0 : Nat.gcd (b.getD (b.length - 1) 0) q = 1) (lead : Nat) (hlq0 : lead < q) (hle0 : b.getD (b.length - 1) 0 * lead % q = 1 % q) :
    Calls Tryd.prog 28 #[.int .i64 (q : Nat), .slice xa a.length xk, .slice ya b.length yk] w fun e w' => RetDW (trimN (divL q b lead (a.length + 1 - b.length) a (List.replicate (a.length + 1 - b.length) 0)).2) (trimN (divL q b lead (a.length + 1 - b.length) a (List.replicate (a.length + 1 - b.length) 0)).1) e w' ∧ Below w.heap.size w w' := by
  have E0 : Hid (Env D w [] [.rw (.slice ya b.length yk) b.length 1 (ncl b), .rw (.slice xa a.length xk) a.length 1 (ncl a)] w) := Lib.hid (((Env.start D w).arg (.rw (.slice xa a.length xk) a.length 1 (ncl a)) hx).arg (.rw (.slice ya b.length yk) b.length 1 (ncl b)) hy)
  clear hx hy
  go_enter Tryd.func28, Tryd.ntmps28
  have ha := Lib.hid ha0
  have hb := Lib.hid hb0
  have hg := Lib.hid hg0
  have hlq := Lib.hid hlq0
  have hle := Lib.hid hle0
  clear ha0 hb0 hg0 hlq0 hle0
  have HT := Lib.hid hqT
  have hq9 : (q : Int) ≤ 2305843009213693951 := by unfold Top at hqT; omega
  clear hqT
  have HQ : Hid (0 < q) := Lib.hid (by omega)
  have HQ1 := Lib.hid hq1
  have hq0 : ¬ (q = 0) := by omega
  have hqz : ((q : Int) == 0) = false := beq_eq_false_iff_ne.2 (by omega)
  have HZ := Lib.hid hz
  go_wp2_with fail
  refine (rTrimO_c a (E0.out.fc 1 rfl) (by omega)).mono ?_
  rintro e w1 ⟨⟨ms, mc, ma, mk, rfl, mO, mH⟩, hb⟩
  have E1 : Hid (Env D w (ms) [.rw (.slice ya b.length yk) b.length 1 (ncl b), .rw (.slice xa a.length xk) a.length 1 (ncl a)] w1) := Lib.hid ((E0.out.gotSeg hb mH.out).cast (by simp))
  clear E0 hb
  obtain ⟨n, hn⟩ : ∃ n, n = a.length + 1 - b.length := ⟨_, rfl⟩
  have HN := Lib.hid hn
  have hmx : max (0 : Int) ((a.length : Int) - (b.length : Int) + 1) = (n : Int) := by omega
  have hn9 : (n : Int) ≤ 1001 := by omega
  have n8 : -9223372036854775808 ≤ (a.length : Int) - (b.length : Int) ∧ (a.length : Int) - (b.length : Int) ≤ 9223372036854775807 := by omega
  have nw1 : ∀ t : Int, t = (b.length : Int) → wrap64 ((a.length : Int) - t) = (a.length : Int) - (b.length : Int) := fun t ht => by rw [ht]; exact IntWalk.wrap64_in _ n8
  have nw2 : ∀ t : Int, t = (b.length : Int) → wrap64 ((a.length : Int) - t + 1) = (a.length : Int) - (b.length : Int) + 1 := fun t ht => by rw [ht]; exact IntWalk.wrap64_in _ (by omega)
  clear n8 hn
  go_wp2_with (at_make; refine wpl_makeI rfl _ _ rfl E1.out n rfl rfl (by omega) ?_)
  intro wm pg Em0
  have Em : Hid (Env D w ((pg, 3, (ncl (List.replicate n 0))) :: ms) [.rw (.slice ya b.length yk) b.length 1 (ncl b), .rw (.slice xa a.length xk) a.length 1 (ncl a)] wm) := Lib.hid (by have h := Em0.out; rw [ncl_rep] at h; first | exact h | exact h.cast (by simp))
  clear Em0 E1 hmx nw1 nw2
  obtain ⟨s, hs⟩ : ∃ s, b.length = s + 1 := ⟨b.length - 1, by omega⟩
  have hsb : s < b.length := by omega
  have hs9 : (s : Int) ≤ 999 := by omega
  have hsI : (s : Int) < (b.length : Int) := by omega
  have ls : (b.length : Int) - 1 = (s : Int) := by omega
  have lw : ∀ t : Int, t = (b.length : Int) → wrap64 (t - 1) = (s : Int) := fun t ht => by rw [ht, ls]; exact IntWalk.wrap64_in _ (by omega)
  have HSB : Hid (b.getD (b.length - 1) 0 = b[s]) := Lib.hid (by rw [hs]; exact getD_elem hsb)
  have HS1 := Lib.hid hs
  clear hs
  have hbs : ((b[s] : Nat) : Int) < (q : Int) := Int.ofNat_lt.2 (hb.out _ (List.getElem_mem hsb))
  obtain ⟨yab, yao, rfl⟩ := Rw.addr (Em.out.fc 0 rfl) (by omega)
  have E2 : Hid (Env D w ((pg, 3, (ncl (List.replicate n 0))) :: ms) [.ce yab (yao + s) (.int .i64 (b[s] : Nat)), .rw (.slice (some ⟨yab, yao, none⟩) b.length yk) b.length 1 (ncl b), .rw (.slice xa a.length xk) a.length 1 (ncl a)] _) := Lib.hid (Em.out.elN 0 rfl rfl (s) hsb)
  clear Em
  have u0 := (E2.out.fc 0 rfl).2
  go_wp2_with fail
  refine (rInvG_c q b[s] _ hbs HT.out (by rw [← HSB.out]; exact hg.out)).mono ?_
  rintro e w2 ⟨⟨ld, ldh, rfl⟩, hb⟩
  have E3 : Hid (Env D w ((pg, 3, (ncl (List.replicate n 0))) :: ms) [.ce yab (yao + s) (.int .i64 (b[s] : Nat)), .rw (.slice (some ⟨yab, yao, none⟩) b.length yk) b.length 1 (ncl b), .rw (.slice xa a.length xk) a.length 1 (ncl a)] w2) := Lib.hid (E2.out.below hb)
  clear u0 E2 hb
  have HLD : Hid (ld = lead) := Lib.hid (inv_uniq ldh.out.1 hlq.out ldh.out.2 (by rw [← HSB.out]; exact hle.out))
  obtain rfl : ld = lead := HLD.out
  clear HLD
  obtain ⟨F, hF⟩ : ∃ F, divL q b ld (a.length + 1 - b.length) a (List.replicate (a.length + 1 - b.length) 0) = F := ⟨_, rfl⟩
  have HF := Lib.hid hF
  clear hF
  have HR0 : Hid (RDiv q b ld n a.length F (trimN a) (List.replicate n 0)) := Lib.hid (by have h := RDiv.start HQ.out HZ.out ld ha.out; rw [HF.out, ← HN.out] at h; exact h)
  go_wp2_with fail
  go_loopg [8] ((trimN a).length) (fun gk s8 wr => ∃ (quo : List Nat) (sg : List Bx) (cs : List Value) (va : Option Addr) (vk : Nat) (o : List Nat), s8 = .slice va o.length vk ∧ Hid (Env D w ((pg, 3, ncl quo) :: sg) [.ce yab (yao + s) (.int .i64 (b[s] : Nat)), .rw (.slice (some ⟨yab, yao, none⟩) b.length yk) b.length 1 (ncl b), .rw (.slice xa a.length xk) a.length 1 (ncl a)] wr) ∧ Hid (OI sg cs (.slice va o.length vk) (nl o)) ∧ Hid (gk = o.length ∧ RDiv q b ld n a.length F o quo))
  case atStart => exact ⟨List.replicate n 0, ms, mc, ma, mk, trimN a, rfl, Lib.hid (E3.out.cast (by simp)), mO, Lib.hid ⟨rfl, HR0.out⟩⟩
  case round =>
    clear E3
    obtain ⟨quo, sg, cs, va, vk, o, rfl, EL, hO, HA⟩ := hrel
    obtain ⟨a1, a3⟩ := HA.out
    have HR := Lib.hid a3
    clear a3 HA HR0
    have HQL := Lib.hid HR.out.ql
    have hol : o.length ≤ a.length := HR.out.rl
    have EC : Hid (Env D w ((pg, 3, (ncl quo)) :: sg) [.ce yab (yao + s) (.int .i64 (b[s] : Nat)), .rw (.slice (some ⟨yab, yao, none⟩) b.length yk) b.length 1 (ncl b), .rw (.slice xa a.length xk) a.length 1 (ncl a)] wr) := Lib.hid (EL.out.cast (by simp))
    clear EL
    by_cases hy : o.length < b.length
    rotate_left
    · have hbo : b.length ≤ o.length := by omega
      have t6 : decide ((o.length : Int) ≥ (b.length : Int)) = true := decide_eq_true (by omega)
      have t7 : decide ((b.length : Int) ≤ (o.length : Int)) = true := decide_eq_true (by omega)
      have t7n : decide (b.length ≤ o.length) = true := decide_eq_true hbo
      clear hy
      have h0 : 0 < o.length := by omega
      obtain ⟨g, rs, rfl, rfl, hgc, hgc9⟩ := OI.box hO.out h0
      clear hO
      have EB : Hid (Env D w [(pg, 3, (ncl quo)), (g, 3, (ncl o ++ rs))] [.ce yab (yao + s) (.int .i64 (b[s] : Nat)), .rw (.slice (some ⟨yab, yao, none⟩) b.length yk) b.length 1 (ncl b), .rw (.slice xa a.length xk) a.length 1 (ncl a)] wr) := Lib.hid (EC.out.cast (by simp))
      clear EC
      obtain ⟨k, hk⟩ : ∃ k, k = o.length - b.length := ⟨_, rfl⟩
      obtain ⟨d, hd⟩ : ∃ d, o.length = d + 1 := ⟨o.length - 1, by omega⟩
      have kc : (o.length : Int) - (b.length : Int) = (k : Int) := by omega
      have dc : (o.length : Int) - 1 = (d : Int) := by omega
      have kw : ∀ t : Int, t = (b.length : Int) → wrap64 ((o.length : Int) - t) = (k : Int) := fun t ht => by rw [ht, kc]; exact IntWalk.wrap64_in _ (by omega)
      have dw : ∀ t : Int, t = (o.length : Int) → wrap64 (t - 1) = (d : Int) := fun t ht => by rw [ht, dc]; exact IntWalk.wrap64_in _ (by omega)
      have hdo : d < o.length := by omega
      have hdI : (d : Int) < (o.length : Int) := by omega
      have hkq : k < quo.length := by rw [HQL.out, HN.out]; omega
      have hkn : (k : Int) < (n : Int) := by have := HQL.out; omega
      have hkb : k + b.length = o.length := by omega
      have HK := Lib.hid hk
      have HD1 := Lib.hid hd
      have HKB := Lib.hid hkb
      clear hk
      have hod : ((o[d] : Nat) : Int) < (q : Int) := Int.ofNat_lt.2 (HR.out.rq _ (List.getElem_mem hdo))
      have hlI : (ld : Int) < (q : Int) := Int.ofNat_lt.2 hlq.out
      have HDD : Hid (o.getD (o.length - 1) 0 = o[d]) := Lib.hid (by rw [show o.length - 1 = d by omega]; exact getD_elem hdo)
      clear hd
      have bg := EB.out.bx 1 rfl
      have y1 := bg.cell (d) (ncl_app_get o rs d hdo)
      have y2 := bg.frozen (d)
      clear bg
      go_wp2_with fail
      refine (refMulB o[d] ld q _ hod hlI HT.out).mono ?_
      rintro e w3 ⟨⟨c, ch, rfl⟩, hb⟩
      have E4 : Hid (Env D w [(pg, 3, (ncl quo)), (g, 3, (ncl o ++ rs))] [.ce yab (yao + s) (.int .i64 (b[s] : Nat)), .rw (.slice (some ⟨yab, yao, none⟩) b.length yk) b.length 1 (ncl b), .rw (.slice xa a.length xk) a.length 1 (ncl a)] w3) := Lib.hid (EB.out.below hb)
      clear y1 y2 EB hb
      have hcq : (c : Int) < (q : Int) := by rw [ch.out]; exact Int.ofNat_lt.2 (Nat.mod_lt _ HQ.out)
      clear kw dw kc dc
      have bg := E4.out.bx 0 rfl
      have y1 := bg.cell (k) (ncl_get quo k hkq)
      have y2 := bg.frozen (k)
      clear bg
      have E5 : Hid (Env D w [(pg, 3, (((ncl quo)).set (k) (.int .i64 (c : Nat)))), (g, 3, (ncl o ++ rs))] [.ce yab (yao + s) (.int .i64 (b[s] : Nat)), .rw (.slice (some ⟨yab, yao, none⟩) b.length yk) b.length 1 (ncl b), .rw (.slice xa a.length xk) a.length 1 (ncl a)] _) := Lib.hid ((E4.out.set 0 k (.int .i64 (c : Nat)) rfl))
      have E6 : Hid (Env D w [(pg, 3, (ncl (quo.set k c))), (g, 3, (ncl o ++ rs))] [.ce yab (yao + s) (.int .i64 (b[s] : Nat)), .rw (.slice (some ⟨yab, yao, none⟩) b.length yk) b.length 1 (ncl b), .rw (.slice xa a.length xk) a.length 1 (ncl a)] _) := Lib.hid (by have h := E5.out; rw [ncl_set quo k c] at h; exact h)
      go_wp2_with fail
      go_loopg [14] (b.length) (fun gk s14 wr => ∃ (j : Nat) (p : List Nat), s14 = .int .i64 (j : Int) ∧ Hid (Env D w [(pg, 3, (ncl (quo.set k c))), (g, 3, (ncl p ++ rs))] [.ce yab (yao + s) (.int .i64 (b[s] : Nat)), .rw (.slice (some ⟨yab, yao, none⟩) b.length yk) b.length 1 (ncl b), .rw (.slice xa a.length xk) a.length 1 (ncl a)] wr) ∧ Hid ((j ≤ b.length ∧ gk = b.length - j) ∧ p = subL q b c k j o))
      case atStart => exact ⟨0, o, rfl, Lib.hid E6.out, Lib.hid ⟨⟨Nat.zero_le _, rfl⟩, rfl⟩⟩
      case round =>
        clear y1 y2 E4 E5 E6
        obtain ⟨j, p, rfl, EL, HA⟩ := hrel
        obtain ⟨⟨b1, b2⟩, b3⟩ := HA.out
        have HP := Lib.hid b3
        clear b3 HA
        have hpl : p.length = o.length := by rw [HP.out, subL_len]
        have HPL := Lib.hid hpl
        clear hpl
        by_cases hy : j = b.length
        rotate_left
        · have hj : j < b.length := by omega
          have t8 : decide ((j : Int) < (b.length : Int)) = true := decide_eq_true (by omega)
          have t9 : decide (j < b.length) = true := decide_eq_true hj
          clear hy
          have hj9 : (j : Int) ≤ 999 := by omega
          have hik : k + j < p.length := by have := HPL.out; have := HKB.out; omega
          have hin : ((k : Int) + (j : Int)) < (o.length : Int) := by have := HPL.out; omega
          have hinn : k + j < o.length := by have := HPL.out; omega
          have hik9 : k + j ≤ 9223372036854775807 := by omega
          have HIK9 := Lib.hid hik9
          clear hik9
          have h0ik : Hid ((0 : Int) ≤ (k : Int) + (j : Int)) := Lib.hid (by omega)
          have htn : Hid (((k : Int) + (j : Int)).toNat = k + j) := Lib.hid rfl
          have hpq : p[k + j] < q := (by rw [HP.out]; exact subL_lt HQ.out b c k j o HR.out.rq : ∀ c ∈ p, c < q) _ (List.getElem_mem hik)
          have hbq : ((b[j] : Nat) : Int) < (q : Int) := Int.ofNat_lt.2 (hb.out _ (List.getElem_mem hj))
          have hpi : ((p[k + j] : Nat) : Int) < (q : Int) := Int.ofNat_lt.2 hpq
          have HPQ := Lib.hid hpq
          clear hpq
          have hw1 : IntKind.i64.wrap (((p[k + j] : Nat) : Int) + (q : Int)) = ((p[k + j] : Nat) : Int) + (q : Int) := by rw [IntKind.wrap_i64]; omega
          have wik : wrap64 ((k : Int) + (j : Int)) = ((k + j : Nat) : Int) := wrap64_add k j HIK9.out
          have wik2 : IntKind.i64.wrap ((k : Int) + (j : Int)) = ((k + j : Nat) : Int) := wrapI_add k j HIK9.out
          have E7 : Hid (Env D w [(pg, 3, (ncl (quo.set k c))), (g, 3, (ncl p ++ rs))] [.ce yab (yao + j) (.int .i64 (b[j] : Nat)), .ce yab (yao + s) (.int .i64 (b[s] : Nat)), .rw (.slice (some ⟨yab, yao, none⟩) b.length yk) b.length 1 (ncl b), .rw (.slice xa a.length xk) a.length 1 (ncl a)] _) := Lib.hid (EL.out.elN 1 rfl rfl (j) hj)
          clear EL
          have v0 := (E7.out.fc 0 rfl).2
          go_wp2_with fail
          have E8 : Hid (Env D w [(pg, 3, (ncl (quo.set k c))), (g, 3, (ncl p ++ rs))] [.ce yab (yao + j) (.int .i64 (b[j] : Nat)), .ce yab (yao + s) (.int .i64 (b[s] : Nat)), .rw (.slice (some ⟨yab, yao, none⟩) b.length yk) b.length 1 (ncl b), .rw (.slice xa a.length xk) a.length 1 (ncl a)] (wr.drew)) := Lib.hid E7.out.drew
          clear v0 E7
          refine wp_regionU (S := fun w' => w'.cell? ⟨g, k + j, none⟩ = some (.int .i64 (p[k + j] : Nat)) ∧ w'.cell? ⟨yab, yao + j, none⟩ = some (.int .i64 (b[j] : Nat))) [23] (by kernel_rfl) (⟨(E8.out.bx 1 rfl).cell (k + j) (ncl_app_get p rs (k + j) hik), (E8.out.fc 0 rfl).2⟩) (fun hHeld => ?_)
          generalize wr.drew = w4 at *
          refine uTake (i := 0) (some 65) (v := ?_) rfl rfl (by kernel_rfl) (by kernel_rfl) (by kernel_rfl) (by kernel_rfl) (fun _ _ _ h => h) (by rfl) (by assumption) ?_ ?_
          rotate_left
          · (intro wS hSw; (try dsimp only at hSw); go_simp; try with_reducible rfl)
          try simp only [Act.put, List.setIfInBounds_toArray, List.set_cons_zero, List.set_cons_succ]
          refine uTake (i := 1) (some 66) (v := ?_) rfl rfl (by kernel_rfl) (by kernel_rfl) (by kernel_rfl) (by kernel_rfl) (fun _ _ _ h => h) (by rfl) (by assumption) ?_ ?_
          rotate_left
          · (intro wS hSw; (try dsimp only at hSw); go_simp; try with_reducible rfl)
          try simp only [Act.put, List.setIfInBounds_toArray, List.set_cons_zero, List.set_cons_succ]
          refine uTake (i := 2) (some 67) (v := ?_) rfl rfl (by kernel_rfl) (by kernel_rfl) (by kernel_rfl) (by kernel_rfl) (fun _ _ _ h => h) (by rfl) (by assumption) ?_ ?_
          rotate_left
          · (intro wS hSw; (try dsimp only at hSw); go_simp; try with_reducible rfl)
          try simp only [Act.put, List.setIfInBounds_toArray, List.set_cons_zero, List.set_cons_succ]
          refine uTake (i := 3) (some 68) (v := ?_) rfl rfl (by kernel_rfl) (by kernel_rfl) (by kernel_rfl) (by kernel_rfl) (fun _ _ _ h => h) (by rfl) (by assumption) ?_ ?_
          rotate_left
          · (intro wS hSw; (try dsimp only at hSw); go_simp; try with_reducible rfl)
          try simp only [Act.put, List.setIfInBounds_toArray, List.set_cons_zero, List.set_cons_succ]
          refine uTake (i := 4) (some 69) (v := ?_) rfl rfl (by kernel_rfl) (by kernel_rfl) (by kernel_rfl) (by kernel_rfl) (fun _ _ _ h => h) (by rfl) (by assumption) ?_ ?_
          rotate_left
          · (intro wS hSw; (try dsimp only at hSw); go_simp; try with_reducible rfl)
          try simp only [Act.put, List.setIfInBounds_toArray, List.set_cons_zero, List.set_cons_succ]
          refine uTake (i := 5) (some 70) (v := ?_) rfl rfl (by kernel_rfl) (by kernel_rfl) (by kernel_rfl) (by kernel_rfl) (fun _ _ _ h => h) (by rfl) (by assumption) ?_ ?_
          rotate_left
          · (intro wS hSw; (try dsimp only at hSw); go_simp; try with_reducible rfl)
          try simp only [Act.put, List.setIfInBounds_toArray, List.set_cons_zero, List.set_cons_succ]
          refine uTake (i := 6) (some 71) (v := ?_) rfl rfl (by kernel_rfl) (by kernel_rfl) (by kernel_rfl) (by kernel_rfl) (fun _ _ _ h => h) (by rfl) (by assumption) ?_ ?_
          rotate_left
          · (intro wS hSw; (try dsimp only at hSw); go_simp; try with_reducible rfl)
          try simp only [Act.put, List.setIfInBounds_toArray, List.set_cons_zero, List.set_cons_succ]
          refine uTake (i := 7) (some 72) (v := ?_) rfl rfl (by kernel_rfl) (by kernel_rfl) (by kernel_rfl) (by kernel_rfl) (fun _ _ _ h => h) (by rfl) (by assumption) ?_ ?_
          rotate_left
          · (intro wS hSw; (try dsimp only at hSw); go_simp; try with_reducible rfl)
          try simp only [Act.put, List.setIfInBounds_toArray, List.set_cons_zero, List.set_cons_succ]
          refine uTake (i := 8) (some 73) (v := .pointer (some ⟨g, k + j, none⟩)) rfl rfl (by kernel_rfl) (by kernel_rfl) (by kernel_rfl) (by kernel_rfl) (fun _ _ _ h => h) (by rfl) (by assumption) ?_ ?_
          · (intro wS hSw; (try dsimp only at hSw); go_simp; rw [if_pos h0ik.out, htn.out])
          try simp only [Act.put, List.setIfInBounds_toArray, List.set_cons_zero, List.set_cons_succ]
          refine uTake (i := 9) (some 74) (v := ?_) rfl rfl (by kernel_rfl) (by kernel_rfl) (by kernel_rfl) (by kernel_rfl) (fun _ _ _ h => h) (by rfl) (by assumption) ?_ ?_
          rotate_left
          · (intro wS hSw; (try dsimp only at hSw); go_simp; try with_reducible rfl)
          try simp only [Act.put, List.setIfInBounds_toArray, List.set_cons_zero, List.set_cons_succ]
          refine uTake (i := 10) (some 75) (v := ?_) rfl rfl (by kernel_rfl) (by kernel_rfl) (by kernel_rfl) (by kernel_rfl) (fun _ _ _ h => h) (by rfl) (by assumption) ?_ ?_
          rotate_left
          · (intro wS hSw; (try dsimp only at hSw); go_simp; try with_reducible rfl)
          try simp only [Act.put, List.setIfInBounds_toArray, List.set_cons_zero, List.set_cons_succ]
          refine uTake (i := 11) (some 76) (v := ?_) rfl rfl (by kernel_rfl) (by kernel_rfl) (by kernel_rfl) (by kernel_rfl) (fun _ _ _ h => h) (by rfl) (by assumption) ?_ ?_
          rotate_left
          · (intro wS hSw; (try dsimp only at hSw); go_simp; try with_reducible rfl)
          try simp only [Act.put, List.setIfInBounds_toArray, List.set_cons_zero, List.set_cons_succ]
          refine uTake (i := 12) (some 77) (v := ?_) rfl rfl (by kernel_rfl) (by kernel_rfl) (by kernel_rfl) (by kernel_rfl) (fun _ _ _ h => h) (by rfl) (by assumption) ?_ ?_
          rotate_left
          · (intro wS hSw; (try dsimp only at hSw); go_simp; try with_reducible rfl)
          try simp only [Act.put, List.setIfInBounds_toArray, List.set_cons_zero, List.set_cons_succ]
          refine uTake (i := 13) (some 78) (v := ?_) rfl rfl (by kernel_rfl) (by kernel_rfl) (by kernel_rfl) (by kernel_rfl) (fun _ _ _ h => h) (by rfl) (by assumption) ?_ ?_
          rotate_left
          · (intro wS hSw; (try dsimp only at hSw); go_simp; try with_reducible rfl)
          try simp only [Act.put, List.setIfInBounds_toArray, List.set_cons_zero, List.set_cons_succ]
          refine uTake (i := 14) (some 79) (v := ?_) rfl rfl (by kernel_rfl) (by kernel_rfl) (by kernel_rfl) (by kernel_rfl) (fun _ _ _ h => h) (by rfl) (by assumption) ?_ ?_
          rotate_left
          · (intro wS hSw; (try dsimp only at hSw); go_simp; try with_reducible rfl)
          try simp only [Act.put, List.setIfInBounds_toArray, List.set_cons_zero, List.set_cons_succ]
          refine uTake (i := 15) (some 80) (v := ?_) rfl rfl (by kernel_rfl) (by kernel_rfl) (by kernel_rfl) (by kernel_rfl) (fun _ _ _ h => h) (by rfl) (by assumption) ?_ ?_
          rotate_left
          · (intro wS hSw; (try dsimp only at hSw); go_simp; try with_reducible rfl)
          try simp only [Act.put, List.setIfInBounds_toArray, List.set_cons_zero, List.set_cons_succ]
          refine uTake (i := 16) (some 81) (v := ?_) rfl rfl (by kernel_rfl) (by kernel_rfl) (by kernel_rfl) (by kernel_rfl) (fun _ _ _ h => h) (by rfl) (by assumption) ?_ ?_
          rotate_left
          · (intro wS hSw; (try dsimp only at hSw); go_simp; try with_reducible rfl)
          try simp only [Act.put, List.setIfInBounds_toArray, List.set_cons_zero, List.set_cons_succ]
          refine uTake (i := 17) (some 82) (v := ?_) rfl rfl (by kernel_rfl) (by kernel_rfl) (by kernel_rfl) (by kernel_rfl) (fun _ _ _ h => h) (by rfl) (by assumption) ?_ ?_
          rotate_left
          · (intro wS hSw; (try dsimp only at hSw); go_simp; try with_reducible rfl)
          try simp only [Act.put, List.setIfInBounds_toArray, List.set_cons_zero, List.set_cons_succ]
          refine uTake (i := 20) (some 85) (v := ?_) rfl rfl (by kernel_rfl) (by kernel_rfl) (by kernel_rfl) (by kernel_rfl) (fun _ _ _ h => h) (by rfl) (by assumption) ?_ ?_
          rotate_left
          · (intro wS hSw; (try dsimp only at hSw); go_simp; try with_reducible rfl)
          try simp only [Act.put, List.setIfInBounds_toArray, List.set_cons_zero, List.set_cons_succ]
          refine uReady (rs := [18]) (by kernel_rfl) (by simp) ?_
          refine ReadyU.cons rfl (fun KK hKK => ?_) ReadyU.nil
          go_simp
          refine (refMulB c b[j] q _ hcq hbq HT.out).mono ?_
          rintro e w5 ⟨⟨s1, s1h, rfl⟩, hb⟩
          have E9 : Hid (Env D w [(pg, 3, (ncl (quo.set k c))), (g, 3, (ncl p ++ rs))] [.ce yab (yao + j) (.int .i64 (b[j] : Nat)), .ce yab (yao + s) (.int .i64 (b[s] : Nat)), .rw (.slice (some ⟨yab, yao, none⟩) b.length yk) b.length 1 (ncl b), .rw (.slice xa a.length xk) a.length 1 (ncl a)] w5) := Lib.hid (E8.out.below hb)
          clear E8 hb
          have s1q : (s1 : Int) < (q : Int) := by rw [s1h.out]; exact Int.ofNat_lt.2 (Nat.mod_lt _ HQ.out)
          have hw3 : ((p[k + j] : Nat) : Int) + (q : Int) - (s1 : Int) = ((p[k + j] + (q - s1) : Nat) : Int) := by omega
          have hw2 : IntKind.i64.wrap (((p[k + j] : Nat) : Int) + (q : Int) - (s1 : Int)) = ((p[k + j] + (q - s1) : Nat) : Int) := by rw [IntKind.wrap_i64]; omega
          have hw4 : IntKind.i64.wrap (((p[k + j] : Nat) : Int) + ((q - s1 : Nat) : Int)) = ((p[k + j] : Nat) : Int) + ((q - s1 : Nat) : Int) := by rw [IntKind.wrap_i64]; omega
          (try dsimp only)
          clear hHeld
          refine hKK.out _ _ (⟨(E9.out.bx 1 rfl).cell (k + j) (ncl_app_get p rs (k + j) hik), (E9.out.fc 0 rfl).2⟩) (fun hHeld => ?_)
          clear hKK KK
          try simp only [Act.put, List.setIfInBounds_toArray, List.set_cons_zero, List.set_cons_succ]
          refine uTake (i := 19) (some 84) (v := .int .i64 ((p[k + j] + (q - s1) : Nat) : Int)) rfl rfl (by kernel_rfl) (by kernel_rfl) (by kernel_rfl) (by kernel_rfl) (fun _ _ _ h => h) (by rfl) (by assumption) ?_ ?_
          · (intro wS hSw; (try dsimp only at hSw); go_simp; first | done | exact hw4 | exact hw2 | (rw [hw1]; exact hw2))
          try simp only [Act.put, List.setIfInBounds_toArray, List.set_cons_zero, List.set_cons_succ]
          refine uTake (i := 21) (some 86) (v := .int .i64 (((p[k + j] + (q - s1)) % q : Nat) : Int)) rfl rfl (by kernel_rfl) (by kernel_rfl) (by kernel_rfl) (by kernel_rfl) (fun _ _ _ h => h) (by rfl) (by assumption) ?_ ?_
          · (intro wS hSw; (try dsimp only at hSw); go_simp; first | done | rfl | exact Int.tmod_eq_emod_of_nonneg (by omega))
          try simp only [Act.put, List.setIfInBounds_toArray, List.set_cons_zero, List.set_cons_succ]
          refine uTake (i := 22) (some 87) (v := .pointer (some ⟨g, k + j, none⟩)) rfl rfl (by kernel_rfl) (by kernel_rfl) (by kernel_rfl) (by kernel_rfl) (fun _ _ _ h => h) (by rfl) (by assumption) ?_ ?_
          · (intro wS hSw; (try dsimp only at hSw); go_simp; rw [if_pos h0ik.out, htn.out])
          try simp only [Act.put, List.setIfInBounds_toArray, List.set_cons_zero, List.set_cons_succ]
          have fz := (E9.out.bx 1 rfl).frozen (k + j)
          refine uReady (rs := [23]) (by kernel_rfl) (by simp) ?_
          refine ReadyU.consU (by kernel_rfl) rfl (fun KK hKK => ?_) ReadyU.nil
          go_simp
          have E10 : Hid (Env D w [(pg, 3, (ncl (quo.set k c))), (g, 3, ((ncl p ++ rs).set (k + j) (.int .i64 ((p[k + j] + (q - s1)) % q : Nat))))] [.ce yab (yao + j) (.int .i64 (b[j] : Nat)), .ce yab (yao + s) (.int .i64 (b[s] : Nat)), .rw (.slice (some ⟨yab, yao, none⟩) b.length yk) b.length 1 (ncl b), .rw (.slice xa a.length xk) a.length 1 (ncl a)] _) := Lib.hid ((E9.out.set 1 (k + j) (.int .i64 ((p[k + j] + (q - s1)) % q : Nat)) rfl))
          (try dsimp only)
          (try clear hHeld)
          refine hKK.out _ _ ?_
          clear hKK KK
          try simp only [Act.put, List.setIfInBounds_toArray, List.set_cons_zero, List.set_cons_succ]
          refine uDone (by kernel_rfl) ?_ _
          have E11 : Hid (Env D w [(pg, 3, (ncl (quo.set k c))), (g, 3, (ncl (p.set (k + j) ((p[k + j] + (q - s1)) % q)) ++ rs))] [.ce yab (yao + j) (.int .i64 (b[j] : Nat)), .ce yab (yao + s) (.int .i64 (b[s] : Nat)), .rw (.slice (some ⟨yab, yao, none⟩) b.length yk) b.length 1 (ncl b), .rw (.slice xa a.length xk) a.length 1 (ncl a)] _) := Lib.hid (by have h := E10.out; rw [ncl_app_set p rs (k + j) _ hik] at h; exact h)
          have HNX := Lib.hid (subL_step (q := q) (r := o) (c := c) (i := k) (s := (p[k + j] + (q - s1)) % q) hj (by rw [← HP.out]; exact hik) s1h.out (congrArg (fun t => (t + (q - s1)) % q) (getElem_congr_coll HP.out)))
          clear wik wik2 hw1 hw2 hw3 hw4
          have EZ := Lib.hid (E11.out.forget)
          go_wp2
          go_roundg (b.length - (j + 1))
          case rel => exact ⟨j + 1, p.set (k + j) ((p[k + j] + (q - s1)) % q), rfl, EZ, Lib.hid ⟨⟨by omega, rfl⟩, by rw [← HNX.out]; exact congrArg (fun t : List Nat => t.set (k + j) ((p[k + j] + (q - s1)) % q)) HP.out⟩⟩
          case measure => exact by omega
        have t8 : decide ((j : Int) < (b.length : Int)) = false := decide_eq_false (by omega)
        have t9 : decide (j < b.length) = false := decide_eq_false (by omega)
        have HPF : Hid (p = subL q b c k b.length o) := Lib.hid (by rw [HP.out, hy])
        have HY := Lib.hid hy
        clear hy
        have HCC : Hid (c = o.getD (o.length - 1) 0 * ld % q) := Lib.hid (by rw [HDD.out]; exact ch.out)
        have HRN : Hid (RDiv q b ld n a.length F (trimN p) (quo.set k c)) := Lib.hid (by rw [HPF.out]; exact RDiv.step HQ1.out HZ.out HN.out hle.out HR.out hbo HK.out HCC.out)
        have hls : (trimN p).length < o.length := by rw [HPF.out]; exact RDiv.less HQ1.out HZ.out hle.out HR.out hbo HK.out HCC.out
        go_wp2_with fail
        refine (rTrimO_at (l := p) (n := o.length) HPL.out (Rw.boxN (cap := vk) (EL.out.bx 1 rfl) (by have := HPL.out; omega) hgc9) (by omega)).mono ?_
        rintro e w4 ⟨⟨ts, tc, ta, tk, rfl, tO, tH⟩, hb⟩
        have E7 : Hid (Env D w ((pg, 3, (ncl (quo.set k c))) :: (g, 3, (ncl p ++ rs)) :: ts) [.ce yab (yao + s) (.int .i64 (b[s] : Nat)), .rw (.slice (some ⟨yab, yao, none⟩) b.length yk) b.length 1 (ncl b), .rw (.slice xa a.length xk) a.length 1 (ncl a)] w4) := Lib.hid ((EL.out.gotSeg hb tH.out).cast (by simp))
        clear EL hb
        have EZ := Lib.hid (Env.mid (p := (pg, 3, ncl (quo.set k c))) (r := (g, 3, ncl p ++ rs)) (F := ts) (E7.out.cast (by simp)))
        go_wp2
        go_roundg ((trimN p).length)
        case rel => exact ⟨quo.set k c, ts, tc, ta, tk, trimN p, rfl, EZ, tO, Lib.hid ⟨rfl, HRN.out⟩⟩
        case measure => exact by omega
    have t6 : decide ((o.length : Int) ≥ (b.length : Int)) = false := decide_eq_false (by omega)
    have t7 : decide ((b.length : Int) ≤ (o.length : Int)) = false := decide_eq_false (by omega)
    have t7n : decide (b.length ≤ o.length) = false := decide_eq_false (by omega)
    obtain ⟨h1, h2⟩ := RDiv.done HQ.out HZ.out HN.out HR.out hy
    have HF1 := Lib.hid h1
    have HF2 := Lib.hid h2
    clear h1 h2
    have hn90 : n ≤ 2000 := by omega
    go_wp2_with fail
    refine (rTrim_at (l := quo) (n := n) HQL.out (Rw.boxP (cap := n) (EC.out.bx 0 rfl) (by have := HQL.out; omega) (by omega)) hn90).mono ?_
    rintro e w3 ⟨⟨q2a, q2k, rfl, q2h⟩, hb⟩
    have E4 : Hid (Env D w ((pg, 3, (ncl quo)) :: sg) [.rw (.slice q2a (trimN quo).length q2k) (trimN quo).length 1 (ncl (trimN quo)), .ce yab (yao + s) (.int .i64 (b[s] : Nat)), .rw (.slice (some ⟨yab, yao, none⟩) b.length yk) b.length 1 (ncl b), .rw (.slice xa a.length xk) a.length 1 (ncl a)] w3) := Lib.hid (EC.out.got (EC.out.below hb) (.rw (.slice q2a (trimN quo).length q2k) (trimN quo).length 1 (ncl (trimN quo))) (Lib.hid (Rw.ge q2h.out)).out)
    clear EC hb
    have hm := Lib.hid (Rw.tr (E4.out.fc 0 rfl))
    have ht := Lib.hid (Rw.tr (hO.out.rwN E4.out (by intro p hp; simp [hp])))
    have hbel := Lib.hid E4.out.bel
    go_wp2
    go_ret2
    exact ⟨by rw [HF.out, ← HF1.out, ← HF2.out]; exact ⟨q2a, q2k, va, vk, rfl, hm, ht⟩, hbel.out⟩
end Go.Proofs.YteipbcpnnojclaaDoor

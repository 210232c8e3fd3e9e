/- specieref13: Trim. -/
import Derived.Test.YtinlfogpbologaaDoorPolR
namespace Go.Proofs.YtinlfogpbologaaDoor
open Go.RowKit DivMath WordMath
set_option linter.unusedVariables false
set_option linter.unusedSimpArgs false
/-- a list of the call's own, as a caller reads it -/
theorem OI.rwN {sg : List Bx} {cs : List Value} {v : Value} {o : List Nat} {D0 : Nat → Prop} {w W : World} {F : List Bx} {G : List Fct} (h : OI sg cs v (nl o)) (E : Env D0 w F G W) (hs : ∀ p ∈ sg, p ∈ F) : Rw W (fun b => w.heap.size ≤ b) v o.length 1 (ncl o) := by
  obtain ⟨h, ht⟩ := h
  rw [nl_len] at h ht
  rcases h with ⟨rfl, rfl, rfl, h0⟩ | ⟨g, cap, rfl, rfl, h1, h2, h3⟩
  · have : o = [] := List.length_eq_zero_iff.1 h0
    subst this; exact Rw.nil _ _ _
  · have hB := (held_iff.1 E.box).1 (g, 3, cs) (hs _ (by simp))
    refine ⟨_, cap, rfl, h1, h2, ncl_len o, ncl_one o, fun _ => ⟨g, 0, rfl, ⟨hB.lt, hB.1⟩, fun i u hu => ?_⟩⟩
    rw [Nat.zero_add]
    rw [show ncl o = cs.take o.length from ht.symm, List.getElem?_take] at hu
    split at hu
    · exact hB.cell _ hu
    · cases hu
theorem OI.snoc {g p : Nat} {cs : List Value} {o : List Nat} {x : Nat} (h : OI [(g, 3, cs)] cs (.slice (some ⟨g, 0, none⟩) ((nl o).length + 1) p) (nl o ++ [(x : Int)])) : OI [(g, 3, cs)] cs (.slice (some ⟨g, 0, none⟩) (nl (o ++ [x])).length p) (nl (o ++ [x])) := by
  have e : nl (o ++ [x]) = nl o ++ [(x : Int)] := by simp [nl]
  rw [e]; simpa using h
theorem OI.v {g p : Nat} {o : List Nat} {x : Nat} : Value.slice (some ⟨g, 0, none⟩) ((nl o).length + 1) p = .slice (some ⟨g, 0, none⟩) (nl (o ++ [x])).length p := by simp [nl]
theorem OI.nlnil : OI [] [] (.slice none (nl []).length 0) (nl []) := OI.nil
set_option maxRecDepth 100000 in
set_option maxHeartbeats 2000000 in
theorem rTrim_c {D : Nat → Prop} (l : List Nat) {xa : Option Addr} {xk : Nat} {w : World} (hx : Fct.at w D (.rw (.slice xa l.length xk) l.length 1 (ncl l))) (hm : l.length ≤ 2000) :
    Calls Tryd.prog 21 #[.slice xa l.length xk] w fun e w' => RetI (fun b => w.heap.size ≤ b) (trimN l) e w' ∧ Below w.heap.size w w' := by
  have E0 : Hid (Env D w [] [.rw (.slice xa l.length xk) l.length 1 (ncl l)] w) := Lib.hid ((Env.start D w).arg (.rw (.slice xa l.length xk) l.length 1 (ncl l)) hx)
  clear hx
  go_enter Tryd.func21, Tryd.ntmps21
  go_wp2_with fail
  go_loopg [3] (l.length) (fun gk s3 wr => ∃ (n : Nat), s3 = .int .i64 (n : Int) ∧ Hid (Env D w [] [.rw (.slice xa l.length xk) l.length 1 (ncl l)] wr) ∧ Hid ((n ≤ l.length ∧ gk = n) ∧ trimN (l.take n) = trimN l))
  case atStart => exact ⟨l.length, rfl, Lib.hid E0.out, Lib.hid ⟨⟨Nat.le_refl _, rfl⟩, by rw [List.take_length]⟩⟩
  case round =>
    clear E0
    obtain ⟨n, rfl, EL, HA⟩ := hrel
    obtain ⟨⟨a1, a2⟩, a3⟩ := HA.out
    have HS := Lib.hid a3
    clear a3 HA
    have hn9 : (n : Int) ≤ 2000 := by omega
    by_cases hy : n = 0
    · have d2 : decide ((0 : Int) < (n : Int)) = false := decide_eq_false (by omega)
      have d2n : decide (0 < n) = false := decide_eq_false (by omega)
      have HT : Hid (l.take n = trimN l) := Lib.hid (by rw [← HS.out, hy]; rfl)
      have HY := Lib.hid hy
      clear hy
      have HN := Lib.hid a1
      clear a2
      go_wp2_with fail
      go_loopg [5, 4] (n) (fun gk s5 s4 wr => ∃ (k : Nat) (sg : List Bx) (cs : List Value) (va : Option Addr) (vk : Nat) (o : List Nat), s5 = .int .i64 (k : Int) ∧ s4 = .slice va (nl o).length vk ∧ Hid (Env D w (sg) [.rw (.slice xa l.length xk) l.length 1 (ncl l)] wr) ∧ Hid (OI sg cs (.slice va (nl o).length vk) (nl o)) ∧ Hid ((k ≤ n ∧ gk = n - k) ∧ o = l.take k))
      case atStart => exact ⟨0, [], [], none, 0, [], rfl, rfl, Lib.hid (EL.out.cast (by simp)), Lib.hid OI.nlnil, Lib.hid ⟨⟨Nat.zero_le _, rfl⟩, rfl⟩⟩
      case round =>
        clear EL
        obtain ⟨k, sg, cs, va, vk, o, rfl, rfl, EL, hO, HA⟩ := hrel
        obtain ⟨⟨b1, b2⟩, b3⟩ := HA.out
        have HP := Lib.hid b3
        clear b3 HA
        by_cases hw : k = n
        rotate_left
        · have hk : k < n := by omega
          have hkl : k < l.length := by omega
          have t8 : decide ((k : Int) < (n : Int)) = true := decide_eq_true (by omega)
          have t9 : decide (k < n) = true := decide_eq_true hk
          clear hw
          have hol : (nl o).length + 1 ≤ 1000000 := by rw [nl_len, HP.out]; simp; omega
          have HOL := Lib.hid hol
          clear hol
          obtain ⟨xab, xao, rfl⟩ := Rw.addr (EL.out.fc 0 rfl) (by omega)
          have E1 : Hid (Env D w (sg) [.ce xab (xao + k) (.int .i64 (l[k] : Nat)), .rw (.slice (some ⟨xab, xao, none⟩) l.length xk) l.length 1 (ncl l)] _) := Lib.hid (EL.out.elN 0 rfl rfl (k) hkl)
          clear EL
          have p0 := (E1.out.fc 0 rfl).2
          have E2 : Hid (Env D w ((wr.heap.size, 3, [.int .i64 (l[k] : Nat)]) :: sg) [.ce xab (xao + k) (.int .i64 (l[k] : Nat)), .rw (.slice (some ⟨xab, xao, none⟩) l.length xk) l.length 1 (ncl l)] _) := Lib.hid ((E1.out.push 3 [.int .i64 (l[k] : Nat)] (wr.heap.size) (by simp)))
          go_wp2_with (at_builtin; refine wpl_app1 (c := 1) tiI rfl _ _ rfl E2.out (A := [(wr.heap.size, 3, [.int .i64 (l[k] : Nat)])]) (sg := sg) (B' := []) (F := ((wr.heap.size, 3, [.int .i64 (l[k] : Nat)]) :: sg)) (by simp) (hO.out.os rfl) rfl rfl (SrcN.int (E2.out.bx 0 rfl)) HOL.out ?_)
          intro zg zp zc w1 zH zT zE
          have zO := Lib.hid (OI.app (x := ((l[k] : Nat) : Int)) (g' := zg) (cs' := zc) (cap' := zp) hO.out rfl (by simpa using zH.out) (by simpa using zT.out))
          have E3 : Hid (Env D w ((wr.heap.size, 3, [.int .i64 (l[k] : Nat)]) :: [(zg, 3, zc)]) [.ce xab (xao + k) (.int .i64 (l[k] : Nat)), .rw (.slice (some ⟨xab, xao, none⟩) l.length xk) l.length 1 (ncl l)] w1) := Lib.hid (zE.out.cast (by simp))
          clear p0 E1 E2 zE zH zT hO
          have EZ := Lib.hid ((E3.out.drop).forget)
          have OZ := Lib.hid (OI.snoc (x := l[k]) zO.out)
          go_wp2
          go_roundg (n - (k + 1))
          case rel => exact ⟨k + 1, [(zg, 3, zc)], zc, some ⟨zg, 0, none⟩, zp, o ++ [l[k]], rfl, OI.v, EZ, OZ, Lib.hid ⟨⟨by omega, rfl⟩, by rw [HP.out, List.take_succ_eq_append_getElem hkl]⟩⟩
          case measure => exact by omega
        have t8 : decide ((k : Int) < (n : Int)) = false := decide_eq_false (by omega)
        have t9 : decide (k < n) = false := decide_eq_false (by omega)
        have HD : Hid (o = trimN l) := Lib.hid (by rw [HP.out, hw, HT.out])
        have HY2 := Lib.hid hw
        clear hw
        have hres := Lib.hid (hO.out.rwN EL.out (by intro p hp; exact hp))
        have hbel := Lib.hid EL.out.bel
        go_wp2
        go_ret
        refine ⟨⟨va, vk, by rw [← HD.out, nl_len]; rfl, Lib.hid ?_⟩, hbel.out⟩
        have h := hres.out
        rw [← HD.out]
        rw [nl_len] at h
        exact h
    · have d2 : decide ((0 : Int) < (n : Int)) = true := decide_eq_true (by omega)
      have d2n : decide (0 < n) = true := decide_eq_true (by omega)
      have d4 : wrap64 ((n : Int) - 1) = ((n - 1 : Nat) : Int) := by rw [IntWalk.wrap64_in _ (by omega)]; omega
      have d5 : (n : Int) - 1 = ((n - 1 : Nat) : Int) := by omega
      have hk : n - 1 < l.length := by omega
      obtain ⟨xab, xao, rfl⟩ := Rw.addr (EL.out.fc 0 rfl) (by omega)
      have E1 : Hid (Env D w [] [.ce xab (xao + (n - 1)) (.int .i64 (l[n - 1] : Nat)), .rw (.slice (some ⟨xab, xao, none⟩) l.length xk) l.length 1 (ncl l)] _) := Lib.hid (EL.out.elN 0 rfl rfl (n - 1) hk)
      clear EL
      have u0 := (E1.out.fc 0 rfl).2
      by_cases hz : l[n - 1] = 0
      · have HR : Hid (trimN (l.take (n - 1)) = trimN l) := Lib.hid (by rw [← trimN_zero (by omega) a1 hz]; exact HS.out)
        have d3 : ((l[n - 1] : Nat) : Int) = 0 := by omega
        have d6 : (((l[n - 1] : Nat) : Int) == 0) = true := by simp; omega
        have d7 : (l[n - 1] == 0) = true := by simp; omega
        clear hz d3
        have EZ := Lib.hid (E1.out.forget)
        go_wp2
        go_roundg (n - 1)
        case rel => exact ⟨n - 1, rfl, EZ, Lib.hid ⟨⟨by omega, rfl⟩, HR.out⟩⟩
        case measure => exact by omega
      · have HT : Hid (l.take n = trimN l) := Lib.hid (by rw [← HS.out, trimN_some (by omega) a1 hz])
        have d6 : (((l[n - 1] : Nat) : Int) == 0) = false := by simp; omega
        have d7 : (l[n - 1] == 0) = false := by simp; omega
        clear hz
        have HN := Lib.hid a1
        clear a2
        go_wp2_with fail
        go_loopg [5, 4] (n) (fun gk s5 s4 wr => ∃ (k : Nat) (sg : List Bx) (cs : List Value) (va : Option Addr) (vk : Nat) (o : List Nat), s5 = .int .i64 (k : Int) ∧ s4 = .slice va (nl o).length vk ∧ Hid (Env D w (sg) [.ce xab (xao + (n - 1)) (.int .i64 (l[n - 1] : Nat)), .rw (.slice (some ⟨xab, xao, none⟩) l.length xk) l.length 1 (ncl l)] wr) ∧ Hid (OI sg cs (.slice va (nl o).length vk) (nl o)) ∧ Hid ((k ≤ n ∧ gk = n - k) ∧ o = l.take k))
        case atStart => exact ⟨0, [], [], none, 0, [], rfl, rfl, Lib.hid (E1.out.cast (by simp)), Lib.hid OI.nlnil, Lib.hid ⟨⟨Nat.zero_le _, rfl⟩, rfl⟩⟩
        case round =>
          clear u0 E1
          obtain ⟨k, sg, cs, va, vk, o, rfl, rfl, EL, hO, HA⟩ := hrel
          obtain ⟨⟨b1, b2⟩, b3⟩ := HA.out
          have HP := Lib.hid b3
          clear b3 HA
          by_cases hw : k = n
          rotate_left
          · have hk : k < n := by omega
            have hkl : k < l.length := by omega
            have t8 : decide ((k : Int) < (n : Int)) = true := decide_eq_true (by omega)
            have t9 : decide (k < n) = true := decide_eq_true hk
            clear hw
            have hol : (nl o).length + 1 ≤ 1000000 := by rw [nl_len, HP.out]; simp; omega
            have HOL := Lib.hid hol
            clear hol
            have E2 : Hid (Env D w (sg) [.ce xab (xao + k) (.int .i64 (l[k] : Nat)), .ce xab (xao + (n - 1)) (.int .i64 (l[n - 1] : Nat)), .rw (.slice (some ⟨xab, xao, none⟩) l.length xk) l.length 1 (ncl l)] _) := Lib.hid (EL.out.elN 1 rfl rfl (k) hkl)
            clear EL
            have p0 := (E2.out.fc 0 rfl).2
            have E3 : Hid (Env D w ((wr.heap.size, 3, [.int .i64 (l[k] : Nat)]) :: sg) [.ce xab (xao + k) (.int .i64 (l[k] : Nat)), .ce xab (xao + (n - 1)) (.int .i64 (l[n - 1] : Nat)), .rw (.slice (some ⟨xab, xao, none⟩) l.length xk) l.length 1 (ncl l)] _) := Lib.hid ((E2.out.push 3 [.int .i64 (l[k] : Nat)] (wr.heap.size) (by simp)))
            go_wp2_with (at_builtin; refine wpl_app1 (c := 1) tiI rfl _ _ rfl E3.out (A := [(wr.heap.size, 3, [.int .i64 (l[k] : Nat)])]) (sg := sg) (B' := []) (F := ((wr.heap.size, 3, [.int .i64 (l[k] : Nat)]) :: sg)) (by simp) (hO.out.os rfl) rfl rfl (SrcN.int (E3.out.bx 0 rfl)) HOL.out ?_)
            intro zg zp zc w1 zH zT zE
            have zO := Lib.hid (OI.app (x := ((l[k] : Nat) : Int)) (g' := zg) (cs' := zc) (cap' := zp) hO.out rfl (by simpa using zH.out) (by simpa using zT.out))
            have E4 : Hid (Env D w ((wr.heap.size, 3, [.int .i64 (l[k] : Nat)]) :: [(zg, 3, zc)]) [.ce xab (xao + k) (.int .i64 (l[k] : Nat)), .ce xab (xao + (n - 1)) (.int .i64 (l[n - 1] : Nat)), .rw (.slice (some ⟨xab, xao, none⟩) l.length xk) l.length 1 (ncl l)] w1) := Lib.hid (zE.out.cast (by simp))
            clear p0 E2 E3 zE zH zT hO
            have EZ := Lib.hid ((E4.out.drop).forget)
            have OZ := Lib.hid (OI.snoc (x := l[k]) zO.out)
            go_wp2
            go_roundg (n - (k + 1))
            case rel => exact ⟨k + 1, [(zg, 3, zc)], zc, some ⟨zg, 0, none⟩, zp, o ++ [l[k]], rfl, OI.v, EZ, OZ, Lib.hid ⟨⟨by omega, rfl⟩, by rw [HP.out, List.take_succ_eq_append_getElem hkl]⟩⟩
            case measure => exact by omega
          have t8 : decide ((k : Int) < (n : Int)) = false := decide_eq_false (by omega)
          have t9 : decide (k < n) = false := decide_eq_false (by omega)
          have HD : Hid (o = trimN l) := Lib.hid (by rw [HP.out, hw, HT.out])
          have HY2 := Lib.hid hw
          clear hw
          have hres := Lib.hid (hO.out.rwN EL.out (by intro p hp; exact hp))
          have hbel := Lib.hid EL.out.bel
          go_wp2
          go_ret
          refine ⟨⟨va, vk, by rw [← HD.out, nl_len]; rfl, Lib.hid ?_⟩, hbel.out⟩
          have h := hres.out
          rw [← HD.out]
          rw [nl_len] at h
          exact h
end Go.Proofs.YtinlfogpbologaaDoor

/- count, Size, ContainsFunc by the closure of right, of certificates. -/
import Derived.Test.YtikopkkebdobdaaGreatDoorVrG
namespace Go.Proofs.YtikopkkebdobdaaGreatDoor
open Go.RowKit DivMath WordMath
set_option linter.unusedVariables false
set_option linter.unusedSimpArgs false
def CountH (d : Nat) : Prop := ∀ (c : Ct) (l0 : Int) {xna xra xza : Option Addr} {xnk xrk xzk : Nat} {w : World}, Fct.at w (fun _ => True) (.gn (gCt d c (.slice xna 1 xnk) (.slice xra 1 xrk) (.slice xza c.parts.length xzk))) → (Ct.sz d c : Int) ≤ l0 ∧ l0 ≤ 1000 → c.parts.length ≤ 100 → CtOk d c → Calls Tryz.prog 124 #[.agg #[.slice xna 1 xnk, .slice xra 1 xrk, .slice xza c.parts.length xzk], .int .i64 l0] w fun e w' => e = .returned (.int .i64 (Ct.sz d c : Nat)) ∧ Below w.heap.size w w'
theorem wrapI_sub {a : Int} {b : Nat} {c : Int} (h : c = a - (b : Int)) (h1 : 0 ≤ c) (h2 : c ≤ 1000) : IntKind.i64.wrap (a - (b : Int)) = c := by rw [IntKind.wrap_i64]; omega
theorem wrap64_sub {a : Int} {b : Nat} {c : Int} (h : c = a - (b : Int)) (h1 : 0 ≤ c) (h2 : c ≤ 1000) : wrap64 (a - (b : Int)) = c := by rw [IntWalk.wrap64_in _ (by omega)]; omega
theorem wrapI_sum {a b c : Nat} (h : a + b = c) (h2 : c ≤ 100000) : IntKind.i64.wrap ((a : Int) + (b : Int)) = (c : Int) := by rw [IntKind.wrap_i64]; omega
theorem wrap64_sum {a b c : Nat} (h : a + b = c) (h2 : c ≤ 100000) : wrap64 ((a : Int) + (b : Int)) = (c : Int) := by rw [IntWalk.wrap64_in _ (by omega)]; omega
theorem cnt_step {m sp M : Nat} {l0 : Int} (h : M = m + sp) (hM : (M : Int) ≤ l0) (hl : l0 ≤ 1000) : ∃ (m2 : Nat) (l1 : Int), m2 = M ∧ ((sp : Int) ≤ l1 ∧ l1 ≤ 1000) ∧ IntKind.i64.wrap ((m : Int) + (sp : Int)) = (m2 : Int) ∧ wrap64 ((m : Int) + (sp : Int)) = (m2 : Int) ∧ IntKind.i64.wrap (l0 - (m : Int)) = l1 ∧ wrap64 (l0 - (m : Int)) = l1 ∧ decide (l0 < (m : Int)) = false ∧ -1 ≤ l1 ∧ -1 ≤ l1 :=
  ⟨M, l0 - (m : Int), rfl, by omega, wrapI_sum h.symm (by omega), wrap64_sum h.symm (by omega), wrapI_sub rfl (by omega) (by omega), wrap64_sub rfl (by omega) (by omega), decide_eq_false (by omega), by omega, by omega⟩
theorem CtOk.few {d : Nat} {c : Ct} (h : CtOk d c) : c.parts.length ≤ 100 := by
  cases d with
  | zero => cases h
  | succ d => exact h.2.2.2.2.2
set_option maxRecDepth 100000 in
set_option maxHeartbeats 4000000 in
theorem count_s {D : Nat → Prop} (d : Nat) (c : Ct) (l0 : Int) {xna xra xza : Option Addr} {xnk xrk xzk : Nat} {w : World} (hx : Fct.at w D (.gn (gCt (d + 1) c (.slice xna 1 xnk) (.slice xra 1 xrk) (.slice xza c.parts.length xzk)))) (ih0 : CountH d) (hs0 : (Ct.sz (d + 1) c : Int) ≤ l0) (hl : l0 ≤ 1000) (hp : c.parts.length ≤ 100) (hk0 : CtOk (d + 1) c) :
    Calls Tryz.prog 124 #[.agg #[.slice xna 1 xnk, .slice xra 1 xrk, .slice xza c.parts.length xzk], .int .i64 l0] w fun e w' => e = .returned (.int .i64 (Ct.sz (d + 1) c : Nat)) ∧ Below w.heap.size w w' := by
  have E0 := Lib.hid ((Env.start D w).arg (.gn (gCt (d + 1) c (.slice xna 1 xnk) (.slice xra 1 xrk) (.slice xza c.parts.length xzk))) hx)
  clear hx
  go_enter Tryz.func124, Tryz.ntmps124
  have ih := Lib.hid ih0
  have hs := Lib.hid hs0
  have hk := Lib.hid hk0
  clear ih0 hs0 hk0
  have HP := Lib.hid hp
  have hl0 : 0 ≤ l0 := by have := hs.out; omega
  go_wp2_with fail
  have E1 : Hid (Env D w [(w.heap.size, 57, [.slice xna 1 xnk, .slice xra 1 xrk, .slice xza c.parts.length xzk])] [.gn (gCt (d + 1) c (.slice xna 1 xnk) (.slice xra 1 xrk) (.slice xza c.parts.length xzk))] _) := Lib.hid ((E0.out.push 57 [.slice xna 1 xnk, .slice xra 1 xrk, .slice xza c.parts.length xzk] (w.heap.size) (by simp)))
  go_loopg [11, 5] (c.parts.length) (fun gk s11 s5 wr => ∃ (k m : Nat), s11 = .int .i64 (k : Int) ∧ s5 = .int .i64 (m : Int) ∧ Hid (Env D w [(w.heap.size, 57, [.slice xna 1 xnk, .slice xra 1 xrk, .slice xza c.parts.length xzk])] [.gn (gCt (d + 1) c (.slice xna 1 xnk) (.slice xra 1 xrk) (.slice xza c.parts.length xzk))] wr) ∧ Hid ((k ≤ c.parts.length ∧ gk = c.parts.length - k) ∧ m = Ct.szk (d + 1) c k))
  case atStart => exact ⟨0, 1, rfl, rfl, Lib.hid E1.out, Lib.hid ⟨⟨Nat.zero_le _, rfl⟩, Ct.szk_zero.symm⟩⟩
  case round =>
    clear E0 E1
    obtain ⟨k, m, rfl, rfl, EL, HA⟩ := hrel
    obtain ⟨⟨a1, a2⟩, a3⟩ := HA.out
    have HM := Lib.hid a3
    clear a3 HA
    by_cases hy : k = c.parts.length
    rotate_left
    · have hk9 : k < c.parts.length := by omega
      have HK := Lib.hid hk9
      have t6 : decide ((k : Int) < (c.parts.length : Int)) = true := decide_eq_true (by omega)
      have t6n : decide (k < c.parts.length) = true := decide_eq_true (by omega)
      clear hy
      have hm9 : (Ct.szk (d + 1) c (k + 1) : Int) ≤ l0 := by have h1 := hs.out; have h2 := Ct.szk_mono (d := d) (c := c) (k := k + 1) (m := c.parts.length) hk9 (Nat.le_refl _); unfold Ct.sz at h1; omega
      have HST := Lib.hid (Ct.szk_succ (d := d) hk9)
      obtain ⟨sp, hsp⟩ : ∃ s, Ct.sz d c.parts[k] = s := ⟨_, rfl⟩
      have HSP := Lib.hid hsp
      obtain ⟨m2, l1, q1, q2, q3, q4, q5, q6, q7, q8, q9⟩ := cnt_step (m := m) (sp := sp) (M := Ct.szk (d + 1) c (k + 1)) (l0 := l0) (by rw [HST.out, ← HM.out]; exact congrArg (m + ·) hsp) hm9 hl
      have HM2 := Lib.hid q1
      have HL2 : Hid ((Ct.sz d c.parts[k] : Int) ≤ l1 ∧ l1 ≤ 1000) := Lib.hid (by rw [hsp]; exact q2)
      clear hm9 hsp q1 q2
      have HKO : Hid (CtOk d c.parts[k]) := Lib.hid (hk.out.2.2.2.2.1 k hk9)
      go_upto_region 4 with (fail)
      obtain ⟨xzb, xzo, rfl⟩ := gCt.addr (EL.out.fc 0 rfl) (by omega)
      obtain ⟨una, unk, ura, urk, uza, uzk, E20⟩ := EL.out.elCt 0 rfl (k) hk9
      have E2 : Hid (Env D w [(w.heap.size, 57, [.slice xna 1 xnk, .slice xra 1 xrk, .slice (some ⟨xzb, xzo, none⟩) c.parts.length xzk])] [.ce xzb (xzo + k * 3) (.slice una 1 unk), .ce xzb (xzo + k * 3 + 1) (.slice ura 1 urk), .ce xzb (xzo + k * 3 + 2) (.slice uza c.parts[k].parts.length uzk), .gn (gCt d c.parts[k] (.slice una 1 unk) (.slice ura 1 urk) (.slice uza c.parts[k].parts.length uzk)), .gn (gCt (d + 1) c (.slice xna 1 xnk) (.slice xra 1 xrk) (.slice (some ⟨xzb, xzo, none⟩) c.parts.length xzk))] _) := Lib.hid E20
      clear E20 EL
      have q0 := (E2.out.fc 0 rfl).2
      have q1 := (E2.out.fc 1 rfl).2
      have q2 := (E2.out.fc 2 rfl).2
      have E3 : Hid (Env D w [(wr.heap.size, 57, [.slice una 1 unk, .slice ura 1 urk, .slice uza c.parts[k].parts.length uzk]), (w.heap.size, 57, [.slice xna 1 xnk, .slice xra 1 xrk, .slice (some ⟨xzb, xzo, none⟩) c.parts.length xzk])] [.ce xzb (xzo + k * 3) (.slice una 1 unk), .ce xzb (xzo + k * 3 + 1) (.slice ura 1 urk), .ce xzb (xzo + k * 3 + 2) (.slice uza c.parts[k].parts.length uzk), .gn (gCt d c.parts[k] (.slice una 1 unk) (.slice ura 1 urk) (.slice uza c.parts[k].parts.length uzk)), .gn (gCt (d + 1) c (.slice xna 1 xnk) (.slice xra 1 xrk) (.slice (some ⟨xzb, xzo, none⟩) c.parts.length xzk))] _) := Lib.hid ((E2.out.push 57 [.slice una 1 unk, .slice ura 1 urk, .slice uza c.parts[k].parts.length uzk] (wr.heap.size) (by simp)))
      go_wp2_with fail
      refine (ih.out c.parts[k] l1 (gCt.any (E3.out.fc 3 rfl)) HL2.out HKO.out.few HKO.out).mono ?_
      rintro e w1 ⟨rfl, hb⟩
      have E4 := Lib.hid (E3.out.below hb)
      clear q0 q1 q2 E2 E3 hb
      rw [HSP.out]
      have EZ := Lib.hid (((((E4.out.drop).forget).forget).forget).forget)
      go_wp2
      go_roundg (c.parts.length - (k + 1))
      case rel => exact ⟨k + 1, m2, rfl, rfl, EZ, Lib.hid ⟨⟨by have := HK.out; omega, rfl⟩, HM2.out⟩⟩
      case measure => exact by have := HK.out; omega
    have t6 : decide ((k : Int) < (c.parts.length : Int)) = false := decide_eq_false (by omega)
    have t6n : decide (k < c.parts.length) = false := decide_eq_false (by omega)
    have HE : Hid ((m : Int) = ((Ct.sz (d + 1) c : Nat) : Int)) := Lib.hid (by rw [HM.out, hy]; rfl)
    clear hy
    have hfin := Lib.hid EL.out.bel
    go_wp2
    go_ret
    exact ⟨RetEq HE.out, hfin.out⟩
theorem count_g : ∀ d, CountH d
  | 0, c, l0, _, _, _, _, _, _, _, _, _, _, h => by cases h
  | d + 1, c, l0, _, _, _, _, _, _, w, hx, hl, hp, hk => count_s d c l0 hx (count_g d) hl.1 hl.2 hp hk
set_option maxRecDepth 100000 in
set_option maxHeartbeats 1000000 in
theorem Size_g {D : Nat → Prop} (d : Nat) (c : Ct) {xna xra xza : Option Addr} {xnk xrk xzk : Nat} {w : World} (hx : Fct.at w D (.gn (gCt d c (.slice xna 1 xnk) (.slice xra 1 xrk) (.slice xza c.parts.length xzk)))) (s : Nat) (hs0 : Ct.sz d c = s) (h1 : s ≤ 1000) (hk0 : CtOk d c) :
    Calls Tryz.prog 99 #[.agg #[.slice xna 1 xnk, .slice xra 1 xrk, .slice xza c.parts.length xzk]] w fun e w' => e = .returned (.int .i64 (s : Nat)) ∧ Below w.heap.size w w' := by
  have E0 := Lib.hid ((Env.start D w).arg (.gn (gCt d c (.slice xna 1 xnk) (.slice xra 1 xrk) (.slice xza c.parts.length xzk))) hx)
  clear hx
  go_enter Tryz.func99, Tryz.ntmps99
  have hs := Lib.hid hs0
  have hk := Lib.hid hk0
  clear hs0 hk0
  have HS : Hid ((Ct.sz d c : Int) ≤ 1000 ∧ (1000 : Int) ≤ 1000) := Lib.hid (by rw [hs.out]; omega)
  have t1 : decide ((1000 : Int) < (s : Int)) = false := decide_eq_false (by omega)
  have t2 : decide (1000 < s) = false := decide_eq_false (by omega)
  have E1 : Hid (Env D w [(w.heap.size, 57, [.slice xna 1 xnk, .slice xra 1 xrk, .slice xza c.parts.length xzk])] [.gn (gCt d c (.slice xna 1 xnk) (.slice xra 1 xrk) (.slice xza c.parts.length xzk))] _) := Lib.hid ((E0.out.push 57 [.slice xna 1 xnk, .slice xra 1 xrk, .slice xza c.parts.length xzk] (w.heap.size) (by simp)))
  go_wp2_with fail
  refine (count_g d c 1000 (gCt.any (E1.out.fc 0 rfl)) HS.out hk.out.few hk.out).mono ?_
  rintro e w1 ⟨rfl, hb⟩
  have E2 := Lib.hid (E1.out.below hb)
  clear E0 E1 hb
  rw [hs.out]
  have hfin := Lib.hid E2.out.bel
  go_wp2
  go_ret
  exact ⟨rfl, hfin.out⟩
set_option maxRecDepth 100000 in
set_option maxHeartbeats 4000000 in
theorem cidx_g {D : Nat → Prop} (d : Nat) (c : Ct) (g1 g2 : Nat) {xna xra xza : Option Addr} {xnk xrk xzk : Nat} {la : Option Addr} {lk : Nat} {w : World} (hx : Fct.at w D (.gn (gCt (d + 1) c (.slice xna 1 xnk) (.slice xra 1 xrk) (.slice xza c.parts.length xzk)))) (hl : Fct.at w D (.rw (.slice la 1 lk) 1 1 (wd (c.num - 1)))) (h1 : Fct.at w D (.ce g1 0 (.slice la 1 lk))) (h20 : Fct.at w D (.ce g2 0 (.slice xna 1 xnk))) (h21 : Fct.at w D (.ce g2 1 (.slice xra 1 xrk))) (h22 : Fct.at w D (.ce g2 2 (.slice xza c.parts.length xzk))) (hk0 : CtOk (d + 1) c) :
    Calls Tryz.prog 136 #[.slice xza c.parts.length xzk, .func (.func 127) #[] #[.pointer (some ⟨g1, 0, none⟩), .pointer (some ⟨g2, 0, none⟩)]] w fun e w' => e = .returned (.int .i64 (-1)) ∧ Below w.heap.size w w' := by
  have E0 := Lib.hid (((((((Env.start D w).arg (.gn (gCt (d + 1) c (.slice xna 1 xnk) (.slice xra 1 xrk) (.slice xza c.parts.length xzk))) hx).arg (.rw (.slice la 1 lk) 1 1 (wd (c.num - 1))) hl).arg (.ce g1 0 (.slice la 1 lk)) h1).arg (.ce g2 0 (.slice xna 1 xnk)) h20).arg (.ce g2 1 (.slice xra 1 xrk)) h21).arg (.ce g2 2 (.slice xza c.parts.length xzk)) h22)
  clear hx hl h1 h20 h21 h22
  go_enter Tryz.func136, Tryz.ntmps136
  have hk := Lib.hid hk0
  clear hk0
  have hp9 := hk.out.2.2.2.2.2
  go_wp2_with fail
  go_loopg [8] (c.parts.length) (fun gk s8 wr => ∃ (k : Nat), s8 = .int .i64 (k : Int) ∧ Hid (Env D w [] [.ce g2 2 (.slice xza c.parts.length xzk), .ce g2 1 (.slice xra 1 xrk), .ce g2 0 (.slice xna 1 xnk), .ce g1 0 (.slice la 1 lk), .rw (.slice la 1 lk) 1 1 (wd (c.num - 1)), .gn (gCt (d + 1) c (.slice xna 1 xnk) (.slice xra 1 xrk) (.slice xza c.parts.length xzk))] wr) ∧ Hid (k ≤ c.parts.length ∧ gk = c.parts.length - k))
  case atStart => exact ⟨0, rfl, Lib.hid E0.out, Lib.hid ⟨Nat.zero_le _, rfl⟩⟩
  case round =>
    clear E0
    obtain ⟨k, rfl, EL, HA⟩ := hrel
    obtain ⟨a1, a2⟩ := HA.out
    clear HA
    by_cases hy : k = c.parts.length
    rotate_left
    · have hk9 : k < c.parts.length := by omega
      have t6 : decide ((k : Int) < (c.parts.length : Int)) = true := decide_eq_true (by omega)
      have t6n : decide (k < c.parts.length) = true := decide_eq_true (by omega)
      clear hy
      go_upto_region 4 with (fail)
      obtain ⟨xzb, xzo, rfl⟩ := gCt.addr (EL.out.fc 5 rfl) (by omega)
      obtain ⟨una, unk, ura, urk, uza, uzk, E10⟩ := EL.out.elCt 5 rfl (k) hk9
      have E1 : Hid (Env D w [] [.ce xzb (xzo + k * 3) (.slice una 1 unk), .ce xzb (xzo + k * 3 + 1) (.slice ura 1 urk), .ce xzb (xzo + k * 3 + 2) (.slice uza c.parts[k].parts.length uzk), .gn (gCt d c.parts[k] (.slice una 1 unk) (.slice ura 1 urk) (.slice uza c.parts[k].parts.length uzk)), .ce g2 2 (.slice (some ⟨xzb, xzo, none⟩) c.parts.length xzk), .ce g2 1 (.slice xra 1 xrk), .ce g2 0 (.slice xna 1 xnk), .ce g1 0 (.slice la 1 lk), .rw (.slice la 1 lk) 1 1 (wd (c.num - 1)), .gn (gCt (d + 1) c (.slice xna 1 xnk) (.slice xra 1 xrk) (.slice (some ⟨xzb, xzo, none⟩) c.parts.length xzk))] _) := Lib.hid E10
      clear E10 EL
      have q0 := (E1.out.fc 0 rfl).2
      have q1 := (E1.out.fc 1 rfl).2
      have q2 := (E1.out.fc 2 rfl).2
      obtain ⟨qq, SS, o1, o2, o3, o4, o5, o6⟩ := hk.out.1.2.2.2.2.2.2 _ (map_mem hk9)
      have O := Lib.hid (And.intro o1 (And.intro o2 (And.intro o3 (And.intro o4 (And.intro o5 (decide_eq_false o6))))))
      clear o1 o2 o3 o4 o5 o6
      go_wp2_with fail
      refine (right1 c.num c.root (c.num - 1) c.parts[k].num qq g1 g2 (gCt.n (E1.out.fc 9 rfl)) (gCt.r (E1.out.fc 9 rfl)) (E1.out.fc 8 rfl) (gCt.n (E1.out.fc 3 rfl)) (E1.out.fc 7 rfl) (E1.out.fc 6 rfl) (E1.out.fc 5 rfl) (E1.out.fc 4 rfl) SS O.out.1 O.out.2.1 O.out.2.2.1 hk.out.1.1.1 hk.out.1.1.2.1 hk.out.1.1.2.2 O.out.2.2.2.1 O.out.2.2.2.2.1 hk.out.1.2.1 O.out.2.2.2.2.2).mono ?_
      rintro e w1 ⟨rfl, hb⟩
      have E2 := Lib.hid (E1.out.below hb)
      clear q0 q1 q2 E1 hb
      have EZ := Lib.hid ((((E2.out.forget).forget).forget).forget)
      go_wp2
      go_roundg (c.parts.length - (k + 1))
      case rel => exact ⟨k + 1, rfl, EZ, Lib.hid ⟨by omega, rfl⟩⟩
      case measure => exact by omega
    have t6 : decide ((k : Int) < (c.parts.length : Int)) = false := decide_eq_false (by omega)
    have t6n : decide (k < c.parts.length) = false := decide_eq_false (by omega)
    clear hy
    have hfin := Lib.hid EL.out.bel
    go_wp2
    go_ret
    exact ⟨rfl, hfin.out⟩
set_option maxRecDepth 100000 in
set_option maxHeartbeats 1000000 in
theorem ccon_g {D : Nat → Prop} (d : Nat) (c : Ct) (g1 g2 : Nat) {xna xra xza : Option Addr} {xnk xrk xzk : Nat} {la : Option Addr} {lk : Nat} {w : World} (hx : Fct.at w D (.gn (gCt (d + 1) c (.slice xna 1 xnk) (.slice xra 1 xrk) (.slice xza c.parts.length xzk)))) (hl : Fct.at w D (.rw (.slice la 1 lk) 1 1 (wd (c.num - 1)))) (h1 : Fct.at w D (.ce g1 0 (.slice la 1 lk))) (h20 : Fct.at w D (.ce g2 0 (.slice xna 1 xnk))) (h21 : Fct.at w D (.ce g2 1 (.slice xra 1 xrk))) (h22 : Fct.at w D (.ce g2 2 (.slice xza c.parts.length xzk))) (hk0 : CtOk (d + 1) c) :
    Calls Tryz.prog 126 #[.slice xza c.parts.length xzk, .func (.func 127) #[] #[.pointer (some ⟨g1, 0, none⟩), .pointer (some ⟨g2, 0, none⟩)]] w fun e w' => e = .returned (.bool false) ∧ Below w.heap.size w w' := by
  have E0 := Lib.hid (((((((Env.start D w).arg (.gn (gCt (d + 1) c (.slice xna 1 xnk) (.slice xra 1 xrk) (.slice xza c.parts.length xzk))) hx).arg (.rw (.slice la 1 lk) 1 1 (wd (c.num - 1))) hl).arg (.ce g1 0 (.slice la 1 lk)) h1).arg (.ce g2 0 (.slice xna 1 xnk)) h20).arg (.ce g2 1 (.slice xra 1 xrk)) h21).arg (.ce g2 2 (.slice xza c.parts.length xzk)) h22)
  clear hx hl h1 h20 h21 h22
  go_enter Tryz.func126, Tryz.ntmps126
  have hk := Lib.hid hk0
  clear hk0
  go_wp2_with fail
  refine (cidx_g d c g1 g2 (E0.out.fc 5 rfl) (E0.out.fc 4 rfl) (E0.out.fc 3 rfl) (E0.out.fc 2 rfl) (E0.out.fc 1 rfl) (E0.out.fc 0 rfl) hk.out).mono ?_
  rintro e w1 ⟨rfl, hb⟩
  have E1 := Lib.hid (E0.out.below hb)
  clear E0 hb
  have hfin := Lib.hid E1.out.bel
  go_wp2
  go_ret
  exact ⟨rfl, hfin.out⟩
end Go.Proofs.YtikopkkebdobdaaGreatDoor

/- which coins are expired. -/
import Derived.Test.YtfnnfmefihiefaaSpAa
namespace Go.Proofs.Ytfnnfmefihiefaa
open Go.RowKit
set_option linter.unusedVariables false
set_option linter.unusedSimpArgs false
theorem wKr : Wide 116 11 := ⟨by kernel_rfl, by kernel_rfl, by kernel_rfl, ⟨_, Try.underlying116, rfl⟩, by kernel_rfl⟩
theorem tKr : Try.prog.tiled 10 116 = true := by kernel_rfl
theorem kKr : Try.prog.keyLits 9 116 (List.replicate 11 (.int .i64 0)) = some (List.replicate 11 (.int .i64 0)) := by kernel_rfl
theorem okKr.at {c : List Value} (h : okc 116 c) {j : Nat} (hj : j < 11) : c[j]? = some (.int .i64 (cInt c j)) :=
  h.int tKr kKr (n := 0) (by rw [List.getElem?_replicate, if_pos hj])
def krOf (cn c : List Value) : Bool := (cInt c 0 == cInt cn 0) && ((cInt c 1 == cInt cn 1) && (cInt c 2 == cInt cn 2))
/-- is the coin expired by these records? -/
def expT (l : List (List Value)) (cn : List Value) (now : Int) : Bool := match l.find? (krOf cn) with | some c => decide (cInt c 10 ≤ now) | none => false
theorem Env.elK {D0 : Nat → Prop} {w W : World} {F : List Bx} {G : List Fct} (h : Env D0 w F G W) (i : Nat) {b off j : Nat} {l : List (List Value)} (e : G[i]? = some (.rw (.slice (some ⟨b, off, none⟩) l.length j) l.length 11 l.flatten)) (hL : ∀ c ∈ l, c.length = 11) {k : Nat} (hk : k < l.length) {c : List Value} (hc : l[k] = c) :
    Env D0 w F (.gn (gRg b (off + k * 11) c) :: G) W := by
  have hr : Rw W (DF D0 w.heap.size F) (.slice (some ⟨b, off, none⟩) l.length j) l.length 11 l.flatten := h.fct.get i e
  have hw := Rw.whole hr rfl hL hk
  rw [hc] at hw
  have hb : b < W.heap.size ∧ DF D0 w.heap.size F b := by
    obtain ⟨ao, cap, h1, _, _, _, _, h6⟩ := hr
    obtain ⟨b', off', k1, k2, k3⟩ := h6 (by omega)
    cases h1
    cases k1
    exact k2
  exact h.note (.gn (gRg b (off + k * 11) c)) ⟨hb, hw⟩
theorem exp_some {l : List (List Value)} {cn : List Value} {now : Int} {k : Nat} (hk : k < l.length) (h1 : krOf cn l[k] = true) (h2 : ∀ j (h : j < l.length), j < k → krOf cn l[j] = false) : expT l cn now = decide (cInt l[k] 10 ≤ now) := by
  have : l.find? (krOf cn) = some l[k] := by
    rw [List.find?_eq_some_iff_getElem]
    exact ⟨h1, k, hk, rfl, fun j hj => by rw [h2 j (by omega) hj]; rfl⟩
  unfold expT; rw [this]
theorem exp_none {l : List (List Value)} {cn : List Value} {now : Int} (h2 : ∀ j (h : j < l.length), krOf cn l[j] = false) : expT l cn now = false := by
  have : l.find? (krOf cn) = none := by
    rw [List.find?_eq_none]
    intro x hx
    obtain ⟨j, hj, rfl⟩ := List.getElem_of_mem hx
    rw [h2 j hj]; simp
  unfold expT; rw [this]
set_option maxRecDepth 100000 in
set_option maxHeartbeats 2000000 in
theorem kr1_c {D : Nat → Prop} (c cn : List Value) (g : Nat) {w : World} (hg : Fct.at w D (.gn (gRg g 0 cn))) (hc0 : okc 116 c) (hn0 : okc 31 cn) {t : Bool} (ht0 : krOf cn c = t) :
    Calls Try.prog 64 #[.agg (c).toArray, .pointer (some ⟨g, 0, none⟩)] w fun e w' => e = .returned (.bool t) ∧ Below w.heap.size w w' := by
  have E0 : Hid (Env D w [] [.gn (gRg g 0 cn)] w) := Lib.hid ((Env.start D w).arg (.gn (gRg g 0 cn)) hg)
  clear hg
  go_enter Try.func64, Try.ntmps64
  have hc := Lib.hid hc0
  have hn := Lib.hid hn0
  have ht := Lib.hid ht0
  clear hc0 hn0 ht0
  obtain ⟨b0, e0⟩ : ∃ b, (cInt c 0 == cInt cn 0) = b := ⟨_, rfl⟩
  obtain ⟨b1, e1⟩ : ∃ b, (cInt c 1 == cInt cn 1) = b := ⟨_, rfl⟩
  obtain ⟨b2, e2⟩ : ∃ b, (cInt c 2 == cInt cn 2) = b := ⟨_, rfl⟩
  have HT : Hid ((b0 && (b1 && b2)) = t) := Lib.hid (by rw [← e0, ← e1, ← e2]; exact ht.out)
  cases b0 with
  | false =>
    have E1 : Hid (Env D w [(w.heap.size, 116, c)] [.gn (gRg g 0 cn)] _) := Lib.hid ((E0.out.push 116 c (w.heap.size) (by simp)))
    have b1 := E1.out.bx 0 rfl
    have c1 := b1.cell 0 (okKr.at hc.out (by omega))
    clear b1
    have c2 : World.cell? _ ⟨g, 0, none⟩ = some (.int .i64 (cInt cn 0)) := gRg.cell (E1.out.fc 0 rfl) (j := 0) (okCoin.at hn.out (by omega))
    have hfin := Lib.hid E1.out.bel
    go_wp2
    go_ret
    exact ⟨RetEqB HT.out, hfin.out⟩
  | true =>
    cases b1 with
    | false =>
      have E1 : Hid (Env D w [(w.heap.size, 116, c)] [.gn (gRg g 0 cn)] _) := Lib.hid ((E0.out.push 116 c (w.heap.size) (by simp)))
      have b1 := E1.out.bx 0 rfl
      have c1 := b1.cell 0 (okKr.at hc.out (by omega))
      clear b1
      have c2 : World.cell? _ ⟨g, 0, none⟩ = some (.int .i64 (cInt cn 0)) := gRg.cell (E1.out.fc 0 rfl) (j := 0) (okCoin.at hn.out (by omega))
      have b3 := E1.out.bx 0 rfl
      have c3 := b3.cell 1 (okKr.at hc.out (by omega))
      clear b3
      have c4 : World.cell? _ ⟨g, 0 + 1, none⟩ = some (.int .i64 (cInt cn 1)) := gRg.cell (E1.out.fc 0 rfl) (j := 1) (okCoin.at hn.out (by omega))
      have hfin := Lib.hid E1.out.bel
      go_wp2
      go_ret
      exact ⟨RetEqB HT.out, hfin.out⟩
    | true =>
      have E1 : Hid (Env D w [(w.heap.size, 116, c)] [.gn (gRg g 0 cn)] _) := Lib.hid ((E0.out.push 116 c (w.heap.size) (by simp)))
      have b1 := E1.out.bx 0 rfl
      have c1 := b1.cell 0 (okKr.at hc.out (by omega))
      clear b1
      have c2 : World.cell? _ ⟨g, 0, none⟩ = some (.int .i64 (cInt cn 0)) := gRg.cell (E1.out.fc 0 rfl) (j := 0) (okCoin.at hn.out (by omega))
      have b3 := E1.out.bx 0 rfl
      have c3 := b3.cell 1 (okKr.at hc.out (by omega))
      clear b3
      have c4 : World.cell? _ ⟨g, 0 + 1, none⟩ = some (.int .i64 (cInt cn 1)) := gRg.cell (E1.out.fc 0 rfl) (j := 1) (okCoin.at hn.out (by omega))
      have b5 := E1.out.bx 0 rfl
      have c5 := b5.cell 2 (okKr.at hc.out (by omega))
      clear b5
      have c6 : World.cell? _ ⟨g, 0 + 2, none⟩ = some (.int .i64 (cInt cn 2)) := gRg.cell (E1.out.fc 0 rfl) (j := 2) (okCoin.at hn.out (by omega))
      have hfin := Lib.hid E1.out.bel
      go_wp2
      go_ret
      exact ⟨RetEqB HT.out, hfin.out⟩
set_option maxRecDepth 100000 in
set_option maxHeartbeats 2000000 in
theorem krI {D : Nat → Prop} (l : List (List Value)) (cn : List Value) (g : Nat) {xa : Option Addr} {xk : Nat} {w : World} (hx : Fct.at w D (.rw (.slice xa l.length xk) l.length 11 l.flatten)) (hg : Fct.at w D (.gn (gRg g 0 cn))) (hok0 : ∀ c ∈ l, okc 116 c) (hn0 : okc 31 cn) {r : Int} (hr0 : (r = -1 ∧ ∀ k (h : k < l.length), krOf cn l[k] = false) ∨ ∃ k : Nat, r = (k : Int) ∧ ∃ h : k < l.length, krOf cn l[k] = true ∧ ∀ j (h : j < l.length), j < k → krOf cn l[j] = false) (hm0 : l.length ≤ 1000000) :
    Calls Try.prog 63 #[.slice xa l.length xk, .func (.func 64) #[] #[.pointer (some ⟨g, 0, none⟩)]] w fun e w' => e = .returned (.int .i64 r) ∧ Below w.heap.size w w' := by
  have E0 : Hid (Env D w [] [.gn (gRg g 0 cn), .rw (.slice xa l.length xk) l.length 11 l.flatten] w) := Lib.hid (((Env.start D w).arg (.rw (.slice xa l.length xk) l.length 11 l.flatten) hx).arg (.gn (gRg g 0 cn)) hg)
  clear hx hg
  go_enter Try.func63, Try.ntmps63
  have hok := Lib.hid hok0
  have hn := Lib.hid hn0
  have hr := Lib.hid hr0
  have hm := Lib.hid hm0
  clear hok0 hn0 hr0 hm0
  have hm9 := hm.out
  go_wp2_with fail
  go_loopg [8] (l.length) (fun gk s8 wr => ∃ (k : Nat), s8 = .int .i64 (k : Int) ∧ Hid (Env D w [] [.gn (gRg g 0 cn), .rw (.slice xa l.length xk) l.length 11 l.flatten] wr) ∧ Hid ((k ≤ l.length ∧ gk = l.length - k) ∧ ∀ j (h : j < l.length), j < k → krOf cn l[j] = false))
  case atStart => exact ⟨0, rfl, Lib.hid E0.out, Lib.hid ⟨⟨Nat.zero_le _, rfl⟩, fun j _ h => absurd h (Nat.not_lt_zero _)⟩⟩
  case round =>
    clear E0
    obtain ⟨k, rfl, EL, HA⟩ := hrel
    obtain ⟨⟨a1, a2⟩, a3⟩ := HA.out
    have HS := Lib.hid a3
    clear a3 HA
    by_cases hy : k = l.length
    rotate_left
    · have hk : k < l.length := by omega
      have t6 : decide ((k : Int) < (l.length : Int)) = true := decide_eq_true (by omega)
      have t7 : decide (k < l.length) = true := decide_eq_true hk
      have hkI : (k : Int) < (l.length : Int) := by omega
      clear hy
      go_upto_region 4 with (fail)
      obtain ⟨xab, xao, rfl⟩ := Rw.addr (EL.out.fc 1 rfl) (by omega)
      obtain ⟨x, xe⟩ : ∃ c, l[k] = c := ⟨_, rfl⟩
      have xE := Lib.hid xe
      clear xe
      have xK : Hid (okc 116 x) := Lib.hid (hok.out _ (by rw [← xE.out]; exact List.getElem_mem hk))
      have E1 : Hid (Env D w [] [.gn (gRg xab (xao + k * 11) x), .gn (gRg g 0 cn), .rw (.slice (some ⟨xab, xao, none⟩) l.length xk) l.length 11 l.flatten] _) := Lib.hid (EL.out.elK 1 rfl (fun c hc => (hok.out c hc).len wKr) hk xE.out)
      clear EL
      obtain ⟨t, ht⟩ : ∃ t, krOf cn x = t := ⟨_, rfl⟩
      have HB := Lib.hid ht
      clear ht
      cases t with
      | true =>
        have HR : Hid (r = (k : Int)) := Lib.hid (by have hb2 := HB.out; rw [← xE.out] at hb2; rcases hr.out with ⟨_, h9⟩ | ⟨j, rfl, hj, h8, h7⟩; (· have := h9 k hk; rw [hb2] at this; cases this); rcases Nat.lt_trichotomy j k with e | e | e; (· have := HS.out j hj e; rw [h8] at this; cases this); (· rw [e]); (· have := h7 k hk e; rw [hb2] at this; cases this))
        have r1 := Lib.hid (E1.out.fc 0 rfl).2
        go_wp2_with (first | (with_reducible refine wpl_load_w wKr xab (xao + k * 11) ?_ ?_ x xK.out r1.out ?_; (· exact ⟨_, rfl, rfl⟩); (· kernel_rfl)))
        refine (kr1_c x cn g (E1.out.fc 1 rfl) xK.out hn.out (t := true) HB.out).mono ?_
        rintro e w1 ⟨rfl, hb⟩
        have E2 : Hid (Env D w [] [.gn (gRg xab (xao + k * 11) x), .gn (gRg g 0 cn), .rw (.slice (some ⟨xab, xao, none⟩) l.length xk) l.length 11 l.flatten] w1) := Lib.hid (E1.out.below hb)
        clear r1 E1 hb
        have hfin := Lib.hid E2.out.bel
        go_wp2
        go_ret
        exact ⟨RetEq HR.out.symm, hfin.out⟩
      | false =>
        have r1 := Lib.hid (E1.out.fc 0 rfl).2
        go_wp2_with (first | (with_reducible refine wpl_load_w wKr xab (xao + k * 11) ?_ ?_ x xK.out r1.out ?_; (· exact ⟨_, rfl, rfl⟩); (· kernel_rfl)))
        refine (kr1_c x cn g (E1.out.fc 1 rfl) xK.out hn.out (t := false) HB.out).mono ?_
        rintro e w1 ⟨rfl, hb⟩
        have E2 : Hid (Env D w [] [.gn (gRg xab (xao + k * 11) x), .gn (gRg g 0 cn), .rw (.slice (some ⟨xab, xao, none⟩) l.length xk) l.length 11 l.flatten] w1) := Lib.hid (E1.out.below hb)
        clear r1 E1 hb
        have EZ := Lib.hid (E2.out.forget)
        go_wp2
        go_roundg (l.length - (k + 1))
        case rel => exact ⟨k + 1, rfl, EZ, Lib.hid ⟨⟨by omega, rfl⟩, fun j h hj => by by_cases e : j = k; (· subst e; rw [xE.out]; exact HB.out); exact HS.out j h (by omega)⟩⟩
        case measure => exact by omega
    have t6 : decide ((k : Int) < (l.length : Int)) = false := decide_eq_false (by omega)
    have t7 : decide (k < l.length) = false := decide_eq_false (by omega)
    have HR : Hid (r = -1) := Lib.hid (by rcases hr.out with ⟨h9, _⟩ | ⟨j, rfl, hj, h8, h7⟩; (· exact h9); have := HS.out j hj (by omega); rw [h8] at this; cases this)
    have HY := Lib.hid hy
    clear hy
    have hfin := Lib.hid EL.out.bel
    go_wp2
    go_ret
    exact ⟨RetEq HR.out.symm, hfin.out⟩
set_option maxRecDepth 100000 in
set_option maxHeartbeats 2000000 in
theorem expired_c {D : Nat → Prop} (l : List (List Value)) (cn : List Value) (now : Int) {xa : Option Addr} {xk : Nat} {w : World} (hx : Fct.at w D (.rw (.slice xa l.length xk) l.length 11 l.flatten)) (hok0 : ∀ c ∈ l, okc 116 c) (hn0 : okc 31 cn) (hm0 : l.length ≤ 1000000) {t : Bool} (ht0 : expT l cn now = t) :
    Calls Try.prog 50 #[.slice xa l.length xk, .agg (cn).toArray, .int .i64 now] w fun e w' => e = .returned (.bool t) ∧ Below w.heap.size w w' := by
  have E0 : Hid (Env D w [] [.rw (.slice xa l.length xk) l.length 11 l.flatten] w) := Lib.hid ((Env.start D w).arg (.rw (.slice xa l.length xk) l.length 11 l.flatten) hx)
  clear hx
  go_enter Try.func50, Try.ntmps50
  have hok := Lib.hid hok0
  have hn := Lib.hid hn0
  have hm := Lib.hid hm0
  have ht := Lib.hid ht0
  clear hok0 hn0 hm0 ht0
  obtain ⟨r, hr⟩ := first_any l (krOf cn)
  have HR := Lib.hid hr
  clear hr
  have E1 : Hid (Env D w [(w.heap.size, 31, cn)] [.rw (.slice xa l.length xk) l.length 11 l.flatten] _) := Lib.hid ((E0.out.push 31 cn (w.heap.size) (by simp)))
  go_wp2_with fail
  refine (krI l cn (w.heap.size) (D := fun _ => True) (Fct.any (f := .rw (.slice xa l.length xk) l.length 11 l.flatten) (E1.out.fc 0 rfl)) (show (gRg (w.heap.size) 0 cn).at_ _ _ from ⟨⟨(E1.out.bx 0 rfl).lt, trivial⟩, (E1.out.bx 0 rfl).range (o := 0) (fun j hj => by rw [Nat.zero_add])⟩) hok.out hn.out HR.out hm.out).mono ?_
  rintro e w1 ⟨rfl, hb⟩
  have E2 : Hid (Env D w [(w.heap.size, 31, cn)] [.rw (.slice xa l.length xk) l.length 11 l.flatten] w1) := Lib.hid (E1.out.below hb)
  clear E0 E1 hb
  have HC : Hid ((r = -1 ∧ expT l cn now = false) ∨ ∃ k : Nat, r = (k : Int) ∧ ∃ h : k < l.length, expT l cn now = decide (cInt l[k] 10 ≤ now)) := Lib.hid (by rcases HR.out with ⟨h1, h2⟩ | ⟨k, h1, h, h2, h3⟩; (· exact .inl ⟨h1, exp_none h2⟩); exact .inr ⟨k, h1, h, exp_some h h2 h3⟩)
  go_upto_region 2 with (fail)
  clear HR
  rcases HC.out with ⟨rfl, h2⟩ | ⟨k, rfl, hk, h2⟩
  · have HT : Hid (t = false) := Lib.hid (ht.out.symm.trans h2)
    clear h2 HC
    have hfin := Lib.hid E2.out.bel
    go_wp2
    go_ret
    exact ⟨RetEqB HT.out.symm, hfin.out⟩
  have HT : Hid (t = decide (cInt l[k] 10 ≤ now)) := Lib.hid (ht.out.symm.trans h2)
  clear h2 HC
  have hkI : (k : Int) < (l.length : Int) := by omega
  have d0 : decide (0 ≤ (k : Int)) = true := decide_eq_true (by omega)
  have d0b : (0 : Int) ≤ (k : Int) := by omega
  obtain ⟨xab, xao, rfl⟩ := Rw.addr (E2.out.fc 0 rfl) (by omega)
  obtain ⟨x, xe⟩ : ∃ c, l[k] = c := ⟨_, rfl⟩
  have xE := Lib.hid xe
  clear xe
  have xK : Hid (okc 116 x) := Lib.hid (hok.out _ (by rw [← xE.out]; exact List.getElem_mem hk))
  have E3 : Hid (Env D w [(w.heap.size, 31, cn)] [.gn (gRg xab (xao + k * 11) x), .rw (.slice (some ⟨xab, xao, none⟩) l.length xk) l.length 11 l.flatten] _) := Lib.hid (E2.out.elK 0 rfl (fun c hc => (hok.out c hc).len wKr) hk xE.out)
  clear E2
  have HT2 : Hid (t = decide (cInt x 10 ≤ now)) := Lib.hid (by rw [HT.out, xE.out])
  have c1 : World.cell? _ ⟨xab, xao + k * 11 + 10, none⟩ = some (.int .i64 (cInt x 10)) := gRg.cell (E3.out.fc 0 rfl) (j := 10) (okKr.at xK.out (by omega))
  have hfin := Lib.hid E3.out.bel
  go_wp2
  go_ret
  exact ⟨RetEqB HT2.out.symm, hfin.out⟩
set_option maxRecDepth 100000 in
set_option maxHeartbeats 4000000 in
theorem rexpired_c {D : Nat → Prop} (l : List (List Value)) (cn : List Value) (now : Int) {xa : Option Addr} {xk : Nat} {w : World} (hx : Fct.at w D (.rw (.slice xa l.length xk) l.length 11 l.flatten)) (hok0 : ∀ c ∈ l, okc 116 c) (hn0 : okc 31 cn) (hm0 : l.length ≤ 1000000) {t : Bool} (ht0 : expT l cn now = t) :
    Calls Try.prog 51 #[.agg (cn).toArray, .slice xa l.length xk, .int .i64 now] w fun e w' => e = .returned (.bool t) ∧ Below w.heap.size w w' := by
  have E0 : Hid (Env D w [] [.rw (.slice xa l.length xk) l.length 11 l.flatten] w) := Lib.hid ((Env.start D w).arg (.rw (.slice xa l.length xk) l.length 11 l.flatten) hx)
  clear hx
  go_enter Try.func51, Try.ntmps51
  have hok := Lib.hid hok0
  have hn := Lib.hid hn0
  have hm := Lib.hid hm0
  have ht := Lib.hid ht0
  clear hok0 hn0 hm0 ht0
  have hm9 := hm.out
  go_wp2_with fail
  have E1 : Hid (Env D w [(w.heap.size, 31, cn)] [.rw (.slice xa l.length xk) l.length 11 l.flatten] _) := Lib.hid ((E0.out.push 31 cn (w.heap.size) (by simp)))
  go_loopg [7] (l.length) (fun gk s7 wr => ∃ (k : Nat), s7 = .int .i64 (k : Int) ∧ Hid (Env D w [(w.heap.size, 31, cn)] [.rw (.slice xa l.length xk) l.length 11 l.flatten] wr) ∧ Hid ((k ≤ l.length ∧ gk = l.length - k) ∧ ∀ j (h : j < l.length), j < k → krOf cn l[j] = false))
  case atStart => exact ⟨0, rfl, Lib.hid E1.out, Lib.hid ⟨⟨Nat.zero_le _, rfl⟩, fun j _ h => absurd h (Nat.not_lt_zero _)⟩⟩
  case round =>
    clear E0 E1
    obtain ⟨k, rfl, EL, HA⟩ := hrel
    obtain ⟨⟨a1, a2⟩, a3⟩ := HA.out
    have HS := Lib.hid a3
    clear a3 HA
    by_cases hy : k = l.length
    · skip
      have t6 : decide ((k : Int) < (l.length : Int)) = false := decide_eq_false (by omega)
      have t7 : decide (k < l.length) = false := decide_eq_false (by omega)
      have HT : Hid (t = false) := Lib.hid (by rw [← ht.out]; exact exp_none fun j h => HS.out j h (by omega))
      have HY := Lib.hid hy
      clear hy
      have hfin := Lib.hid EL.out.bel
      go_wp2
      go_ret
      exact ⟨RetEqB HT.out.symm, hfin.out⟩
    have hk : k < l.length := lt_of hy a1
    have t6 : decide ((k : Int) < (l.length : Int)) = true := decide_eq_true (by omega)
    have t7 : decide (k < l.length) = true := decide_eq_true (by omega)
    have hkI : (k : Int) < (l.length : Int) := by omega
    clear hy
    go_upto_region 4 with (fail)
    obtain ⟨xab, xao, rfl⟩ := Rw.addr (EL.out.fc 0 rfl) (by omega)
    obtain ⟨x, xe⟩ : ∃ c, l[k] = c := ⟨_, rfl⟩
    have xE := Lib.hid xe
    clear xe
    have xK : Hid (okc 116 x) := Lib.hid (hok.out _ (by rw [← xE.out]; exact List.getElem_mem hk))
    have E2 : Hid (Env D w [(w.heap.size, 31, cn)] [.gn (gRg xab (xao + k * 11) x), .rw (.slice (some ⟨xab, xao, none⟩) l.length xk) l.length 11 l.flatten] _) := Lib.hid (EL.out.elK 0 rfl (fun c hc => (hok.out c hc).len wKr) hk xE.out)
    clear EL
    obtain ⟨b0, e0⟩ : ∃ b, (cInt x 0 == cInt cn 0) = b := ⟨_, rfl⟩
    obtain ⟨b1, e1⟩ : ∃ b, (cInt x 1 == cInt cn 1) = b := ⟨_, rfl⟩
    obtain ⟨b2, e2⟩ : ∃ b, (cInt x 2 == cInt cn 2) = b := ⟨_, rfl⟩
    have HT : Hid (krOf cn x = (b0 && (b1 && b2))) := Lib.hid (by rw [← e0, ← e1, ← e2]; rfl)
    cases b0 with
    | false =>
      have HS2 : Hid (∀ j (h : j < l.length), j < k + 1 → krOf cn l[j] = false) := Lib.hid (fun j h hj => by by_cases e : j = k; (· subst e; rw [xE.out]; exact HT.out); exact HS.out j h (by omega))
      go_wp2_with fail
      have E3 : Hid (Env D w [(w.heap.size, 31, cn)] [.gn (gRg xab (xao + k * 11) x), .rw (.slice (some ⟨xab, xao, none⟩) l.length xk) l.length 11 l.flatten] (wr.drew)) := Lib.hid E2.out.drew
      clear E2
      refine wp_regionU (S := fun w' => w'.cell? ⟨xab, xao + k * 11, none⟩ = some (.int .i64 (cInt x 0)) ∧ w'.cell? ⟨w.heap.size, 0, none⟩ = some (.int .i64 (cInt cn 0))) [] (by kernel_rfl) (⟨(gRg.cell (E3.out.fc 0 rfl) (j := 0) (okKr.at xK.out (by omega))), ((E3.out.bx 0 rfl).cell 0 (okCoin.at hn.out (by omega)))⟩) (fun hHeld => ?_)
      generalize wr.drew = w1 at *
      refine uTake (i := 0) (some 14) (v := ?_) rfl rfl (by kernel_rfl) (by kernel_rfl) (by kernel_rfl) (by kernel_rfl) (fun _ _ _ h => h) (by rfl) (by assumption) ?_ ?_
      rotate_left
      · (intro wS hSw; (try dsimp only at hSw); go_simp; try with_reducible rfl)
      try simp only [Act.put, List.setIfInBounds_toArray, List.set_cons_zero, List.set_cons_succ]
      refine uTake (i := 1) (some 15) (v := ?_) rfl rfl (by kernel_rfl) (by kernel_rfl) (by kernel_rfl) (by kernel_rfl) (fun _ _ _ h => h) (by rfl) (by assumption) ?_ ?_
      rotate_left
      · (intro wS hSw; (try dsimp only at hSw); go_simp; try with_reducible rfl)
      try simp only [Act.put, List.setIfInBounds_toArray, List.set_cons_zero, List.set_cons_succ]
      refine uTake (i := 2) (some 16) (v := ?_) rfl rfl (by kernel_rfl) (by kernel_rfl) (by kernel_rfl) (by kernel_rfl) (fun _ _ _ h => h) (by rfl) (by assumption) ?_ ?_
      rotate_left
      · (intro wS hSw; (try dsimp only at hSw); go_simp; try with_reducible rfl)
      try simp only [Act.put, List.setIfInBounds_toArray, List.set_cons_zero, List.set_cons_succ]
      refine uTake (i := 3) (some 17) (v := ?_) rfl rfl (by kernel_rfl) (by kernel_rfl) (by kernel_rfl) (by kernel_rfl) (fun _ _ _ h => h) (by rfl) (by assumption) ?_ ?_
      rotate_left
      · (intro wS hSw; (try dsimp only at hSw); go_simp; try with_reducible rfl)
      try simp only [Act.put, List.setIfInBounds_toArray, List.set_cons_zero, List.set_cons_succ]
      refine uTake (i := 4) (some 18) (v := ?_) rfl rfl (by kernel_rfl) (by kernel_rfl) (by kernel_rfl) (by kernel_rfl) (fun _ _ _ h => h) (by rfl) (by assumption) ?_ ?_
      rotate_left
      · (intro wS hSw; (try dsimp only at hSw); go_simp; try with_reducible rfl)
      try simp only [Act.put, List.setIfInBounds_toArray, List.set_cons_zero, List.set_cons_succ]
      refine uTake (i := 5) (some 19) (v := ?_) rfl rfl (by kernel_rfl) (by kernel_rfl) (by kernel_rfl) (by kernel_rfl) (fun _ _ _ h => h) (by rfl) (by assumption) ?_ ?_
      rotate_left
      · (intro wS hSw; (try dsimp only at hSw); go_simp; try with_reducible rfl)
      try simp only [Act.put, List.setIfInBounds_toArray, List.set_cons_zero, List.set_cons_succ]
      refine uTake (i := 6) (some 20) (v := ?_) rfl rfl (by kernel_rfl) (by kernel_rfl) (by kernel_rfl) (by kernel_rfl) (fun _ _ _ h => h) (by rfl) (by assumption) ?_ ?_
      rotate_left
      · (intro wS hSw; (try dsimp only at hSw); go_simp; try with_reducible rfl)
      try simp only [Act.put, List.setIfInBounds_toArray, List.set_cons_zero, List.set_cons_succ]
      refine uTake (i := 7) (some 21) (v := ?_) rfl rfl (by kernel_rfl) (by kernel_rfl) (by kernel_rfl) (by kernel_rfl) (fun _ _ _ h => h) (by rfl) (by assumption) ?_ ?_
      rotate_left
      · (intro wS hSw; (try dsimp only at hSw); go_simp; try with_reducible rfl)
      try simp only [Act.put, List.setIfInBounds_toArray, List.set_cons_zero, List.set_cons_succ]
      refine uTake (i := 8) (some 22) (v := ?_) rfl rfl (by kernel_rfl) (by kernel_rfl) (by kernel_rfl) (by kernel_rfl) (fun _ _ _ h => h) (by rfl) (by assumption) ?_ ?_
      rotate_left
      · (intro wS hSw; (try dsimp only at hSw); go_simp; try with_reducible rfl)
      try simp only [Act.put, List.setIfInBounds_toArray, List.set_cons_zero, List.set_cons_succ]
      refine uPass (i := 9) (some 23) rfl rfl (by kernel_rfl) (by kernel_rfl) (by kernel_rfl) (by kernel_rfl) (fun _ _ _ h => h) (by rfl) (by assumption) ?_
      try simp only [Act.put, List.setIfInBounds_toArray, List.set_cons_zero, List.set_cons_succ]
      refine uPass (i := 10) (some 24) rfl rfl (by kernel_rfl) (by kernel_rfl) (by kernel_rfl) (by kernel_rfl) (fun _ _ _ h => h) (by rfl) (by assumption) ?_
      try simp only [Act.put, List.setIfInBounds_toArray, List.set_cons_zero, List.set_cons_succ]
      refine uPass (i := 11) (some 25) rfl rfl (by kernel_rfl) (by kernel_rfl) (by kernel_rfl) (by kernel_rfl) (fun _ _ _ h => h) (by rfl) (by assumption) ?_
      try simp only [Act.put, List.setIfInBounds_toArray, List.set_cons_zero, List.set_cons_succ]
      refine uPass (i := 12) (some 26) rfl rfl (by kernel_rfl) (by kernel_rfl) (by kernel_rfl) (by kernel_rfl) (fun _ _ _ h => h) (by rfl) (by assumption) ?_
      try simp only [Act.put, List.setIfInBounds_toArray, List.set_cons_zero, List.set_cons_succ]
      refine uPass (i := 13) (some 27) rfl rfl (by kernel_rfl) (by kernel_rfl) (by kernel_rfl) (by kernel_rfl) (fun _ _ _ h => h) (by rfl) (by assumption) ?_
      try simp only [Act.put, List.setIfInBounds_toArray, List.set_cons_zero, List.set_cons_succ]
      refine uPass (i := 14) (some 28) rfl rfl (by kernel_rfl) (by kernel_rfl) (by kernel_rfl) (by kernel_rfl) (fun _ _ _ h => h) (by rfl) (by assumption) ?_
      try simp only [Act.put, List.setIfInBounds_toArray, List.set_cons_zero, List.set_cons_succ]
      refine uPass (i := 15) (some 29) rfl rfl (by kernel_rfl) (by kernel_rfl) (by kernel_rfl) (by kernel_rfl) (fun _ _ _ h => h) (by rfl) (by assumption) ?_
      try simp only [Act.put, List.setIfInBounds_toArray, List.set_cons_zero, List.set_cons_succ]
      refine uPass (i := 16) (some 30) rfl rfl (by kernel_rfl) (by kernel_rfl) (by kernel_rfl) (by kernel_rfl) (fun _ _ _ h => h) (by rfl) (by assumption) ?_
      try simp only [Act.put, List.setIfInBounds_toArray, List.set_cons_zero, List.set_cons_succ]
      refine uTake (i := 17) (some 31) (v := ?_) rfl rfl (by kernel_rfl) (by kernel_rfl) (by kernel_rfl) (by kernel_rfl) (fun _ _ _ h => h) (by rfl) (by assumption) ?_ ?_
      rotate_left
      · (intro wS hSw; (try dsimp only at hSw); go_simp; try with_reducible rfl)
      try simp only [Act.put, List.setIfInBounds_toArray, List.set_cons_zero, List.set_cons_succ]
      refine uTake (i := 18) (some 32) (v := ?_) rfl rfl (by kernel_rfl) (by kernel_rfl) (by kernel_rfl) (by kernel_rfl) (fun _ _ _ h => h) (by rfl) (by assumption) ?_ ?_
      rotate_left
      · (intro wS hSw; (try dsimp only at hSw); go_simp; try with_reducible rfl)
      try simp only [Act.put, List.setIfInBounds_toArray, List.set_cons_zero, List.set_cons_succ]
      refine uPass (i := 19) (some 33) rfl rfl (by kernel_rfl) (by kernel_rfl) (by kernel_rfl) (by kernel_rfl) (fun _ _ _ h => h) (by rfl) (by assumption) ?_
      try simp only [Act.put, List.setIfInBounds_toArray, List.set_cons_zero, List.set_cons_succ]
      refine uPass (i := 20) (some 34) rfl rfl (by kernel_rfl) (by kernel_rfl) (by kernel_rfl) (by kernel_rfl) (fun _ _ _ h => h) (by rfl) (by assumption) ?_
      try simp only [Act.put, List.setIfInBounds_toArray, List.set_cons_zero, List.set_cons_succ]
      refine uPass (i := 21) (some 35) rfl rfl (by kernel_rfl) (by kernel_rfl) (by kernel_rfl) (by kernel_rfl) (fun _ _ _ h => h) (by rfl) (by assumption) ?_
      try simp only [Act.put, List.setIfInBounds_toArray, List.set_cons_zero, List.set_cons_succ]
      refine uPass (i := 22) (some 36) rfl rfl (by kernel_rfl) (by kernel_rfl) (by kernel_rfl) (by kernel_rfl) (fun _ _ _ h => h) (by rfl) (by assumption) ?_
      try simp only [Act.put, List.setIfInBounds_toArray, List.set_cons_zero, List.set_cons_succ]
      refine uPass (i := 23) (some 37) rfl rfl (by kernel_rfl) (by kernel_rfl) (by kernel_rfl) (by kernel_rfl) (fun _ _ _ h => h) (by rfl) (by assumption) ?_
      try simp only [Act.put, List.setIfInBounds_toArray, List.set_cons_zero, List.set_cons_succ]
      refine uPass (i := 24) (some 38) rfl rfl (by kernel_rfl) (by kernel_rfl) (by kernel_rfl) (by kernel_rfl) (fun _ _ _ h => h) (by rfl) (by assumption) ?_
      try simp only [Act.put, List.setIfInBounds_toArray, List.set_cons_zero, List.set_cons_succ]
      refine uPass (i := 25) (some 39) rfl rfl (by kernel_rfl) (by kernel_rfl) (by kernel_rfl) (by kernel_rfl) (fun _ _ _ h => h) (by rfl) (by assumption) ?_
      try simp only [Act.put, List.setIfInBounds_toArray, List.set_cons_zero, List.set_cons_succ]
      refine uPass (i := 26) (some 40) rfl rfl (by kernel_rfl) (by kernel_rfl) (by kernel_rfl) (by kernel_rfl) (fun _ _ _ h => h) (by rfl) (by assumption) ?_
      try simp only [Act.put, List.setIfInBounds_toArray, List.set_cons_zero, List.set_cons_succ]
      refine uTake (i := 27) (some 41) (v := ?_) rfl rfl (by kernel_rfl) (by kernel_rfl) (by kernel_rfl) (by kernel_rfl) (fun _ _ _ h => h) (by rfl) (by assumption) ?_ ?_
      rotate_left
      · (intro wS hSw; (try dsimp only at hSw); go_simp; try with_reducible rfl)
      try simp only [Act.put, List.setIfInBounds_toArray, List.set_cons_zero, List.set_cons_succ]
      refine uDone (by kernel_rfl) ?_ _
      have EZ := Lib.hid (E3.out.forget)
      go_wp2
      go_roundg (l.length - (k + 1))
      case rel => exact ⟨k + 1, rfl, EZ, Lib.hid ⟨⟨by omega, rfl⟩, HS2.out⟩⟩
      case measure => exact by omega
    | true =>
      cases b1 with
      | false =>
        have HS2 : Hid (∀ j (h : j < l.length), j < k + 1 → krOf cn l[j] = false) := Lib.hid (fun j h hj => by by_cases e : j = k; (· subst e; rw [xE.out]; exact HT.out); exact HS.out j h (by omega))
        go_wp2_with fail
        have E3 : Hid (Env D w [(w.heap.size, 31, cn)] [.gn (gRg xab (xao + k * 11) x), .rw (.slice (some ⟨xab, xao, none⟩) l.length xk) l.length 11 l.flatten] (wr.drew)) := Lib.hid E2.out.drew
        clear E2
        refine wp_regionU (S := fun w' => w'.cell? ⟨xab, xao + k * 11, none⟩ = some (.int .i64 (cInt x 0)) ∧ w'.cell? ⟨w.heap.size, 0, none⟩ = some (.int .i64 (cInt cn 0)) ∧ w'.cell? ⟨xab, xao + k * 11 + 1, none⟩ = some (.int .i64 (cInt x 1)) ∧ w'.cell? ⟨w.heap.size, 1, none⟩ = some (.int .i64 (cInt cn 1))) [] (by kernel_rfl) (⟨(gRg.cell (E3.out.fc 0 rfl) (j := 0) (okKr.at xK.out (by omega))), ((E3.out.bx 0 rfl).cell 0 (okCoin.at hn.out (by omega))), (gRg.cell (E3.out.fc 0 rfl) (j := 1) (okKr.at xK.out (by omega))), ((E3.out.bx 0 rfl).cell 1 (okCoin.at hn.out (by omega)))⟩) (fun hHeld => ?_)
        generalize wr.drew = w1 at *
        refine uTake (i := 0) (some 14) (v := ?_) rfl rfl (by kernel_rfl) (by kernel_rfl) (by kernel_rfl) (by kernel_rfl) (fun _ _ _ h => h) (by rfl) (by assumption) ?_ ?_
        rotate_left
        · (intro wS hSw; (try dsimp only at hSw); go_simp; try with_reducible rfl)
        try simp only [Act.put, List.setIfInBounds_toArray, List.set_cons_zero, List.set_cons_succ]
        refine uTake (i := 1) (some 15) (v := ?_) rfl rfl (by kernel_rfl) (by kernel_rfl) (by kernel_rfl) (by kernel_rfl) (fun _ _ _ h => h) (by rfl) (by assumption) ?_ ?_
        rotate_left
        · (intro wS hSw; (try dsimp only at hSw); go_simp; try with_reducible rfl)
        try simp only [Act.put, List.setIfInBounds_toArray, List.set_cons_zero, List.set_cons_succ]
        refine uTake (i := 2) (some 16) (v := ?_) rfl rfl (by kernel_rfl) (by kernel_rfl) (by kernel_rfl) (by kernel_rfl) (fun _ _ _ h => h) (by rfl) (by assumption) ?_ ?_
        rotate_left
        · (intro wS hSw; (try dsimp only at hSw); go_simp; try with_reducible rfl)
        try simp only [Act.put, List.setIfInBounds_toArray, List.set_cons_zero, List.set_cons_succ]
        refine uTake (i := 3) (some 17) (v := ?_) rfl rfl (by kernel_rfl) (by kernel_rfl) (by kernel_rfl) (by kernel_rfl) (fun _ _ _ h => h) (by rfl) (by assumption) ?_ ?_
        rotate_left
        · (intro wS hSw; (try dsimp only at hSw); go_simp; try with_reducible rfl)
        try simp only [Act.put, List.setIfInBounds_toArray, List.set_cons_zero, List.set_cons_succ]
        refine uTake (i := 4) (some 18) (v := ?_) rfl rfl (by kernel_rfl) (by kernel_rfl) (by kernel_rfl) (by kernel_rfl) (fun _ _ _ h => h) (by rfl) (by assumption) ?_ ?_
        rotate_left
        · (intro wS hSw; (try dsimp only at hSw); go_simp; try with_reducible rfl)
        try simp only [Act.put, List.setIfInBounds_toArray, List.set_cons_zero, List.set_cons_succ]
        refine uTake (i := 5) (some 19) (v := ?_) rfl rfl (by kernel_rfl) (by kernel_rfl) (by kernel_rfl) (by kernel_rfl) (fun _ _ _ h => h) (by rfl) (by assumption) ?_ ?_
        rotate_left
        · (intro wS hSw; (try dsimp only at hSw); go_simp; try with_reducible rfl)
        try simp only [Act.put, List.setIfInBounds_toArray, List.set_cons_zero, List.set_cons_succ]
        refine uTake (i := 6) (some 20) (v := ?_) rfl rfl (by kernel_rfl) (by kernel_rfl) (by kernel_rfl) (by kernel_rfl) (fun _ _ _ h => h) (by rfl) (by assumption) ?_ ?_
        rotate_left
        · (intro wS hSw; (try dsimp only at hSw); go_simp; try with_reducible rfl)
        try simp only [Act.put, List.setIfInBounds_toArray, List.set_cons_zero, List.set_cons_succ]
        refine uTake (i := 7) (some 21) (v := ?_) rfl rfl (by kernel_rfl) (by kernel_rfl) (by kernel_rfl) (by kernel_rfl) (fun _ _ _ h => h) (by rfl) (by assumption) ?_ ?_
        rotate_left
        · (intro wS hSw; (try dsimp only at hSw); go_simp; try with_reducible rfl)
        try simp only [Act.put, List.setIfInBounds_toArray, List.set_cons_zero, List.set_cons_succ]
        refine uTake (i := 8) (some 22) (v := ?_) rfl rfl (by kernel_rfl) (by kernel_rfl) (by kernel_rfl) (by kernel_rfl) (fun _ _ _ h => h) (by rfl) (by assumption) ?_ ?_
        rotate_left
        · (intro wS hSw; (try dsimp only at hSw); go_simp; try with_reducible rfl)
        try simp only [Act.put, List.setIfInBounds_toArray, List.set_cons_zero, List.set_cons_succ]
        refine uTake (i := 9) (some 23) (v := ?_) rfl rfl (by kernel_rfl) (by kernel_rfl) (by kernel_rfl) (by kernel_rfl) (fun _ _ _ h => h) (by rfl) (by assumption) ?_ ?_
        rotate_left
        · (intro wS hSw; (try dsimp only at hSw); go_simp; try with_reducible rfl)
        try simp only [Act.put, List.setIfInBounds_toArray, List.set_cons_zero, List.set_cons_succ]
        refine uTake (i := 10) (some 24) (v := ?_) rfl rfl (by kernel_rfl) (by kernel_rfl) (by kernel_rfl) (by kernel_rfl) (fun _ _ _ h => h) (by rfl) (by assumption) ?_ ?_
        rotate_left
        · (intro wS hSw; (try dsimp only at hSw); go_simp; try with_reducible rfl)
        try simp only [Act.put, List.setIfInBounds_toArray, List.set_cons_zero, List.set_cons_succ]
        refine uTake (i := 11) (some 25) (v := ?_) rfl rfl (by kernel_rfl) (by kernel_rfl) (by kernel_rfl) (by kernel_rfl) (fun _ _ _ h => h) (by rfl) (by assumption) ?_ ?_
        rotate_left
        · (intro wS hSw; (try dsimp only at hSw); go_simp; try with_reducible rfl)
        try simp only [Act.put, List.setIfInBounds_toArray, List.set_cons_zero, List.set_cons_succ]
        refine uTake (i := 12) (some 26) (v := ?_) rfl rfl (by kernel_rfl) (by kernel_rfl) (by kernel_rfl) (by kernel_rfl) (fun _ _ _ h => h) (by rfl) (by assumption) ?_ ?_
        rotate_left
        · (intro wS hSw; (try dsimp only at hSw); go_simp; try with_reducible rfl)
        try simp only [Act.put, List.setIfInBounds_toArray, List.set_cons_zero, List.set_cons_succ]
        refine uTake (i := 13) (some 27) (v := ?_) rfl rfl (by kernel_rfl) (by kernel_rfl) (by kernel_rfl) (by kernel_rfl) (fun _ _ _ h => h) (by rfl) (by assumption) ?_ ?_
        rotate_left
        · (intro wS hSw; (try dsimp only at hSw); go_simp; try with_reducible rfl)
        try simp only [Act.put, List.setIfInBounds_toArray, List.set_cons_zero, List.set_cons_succ]
        refine uTake (i := 14) (some 28) (v := ?_) rfl rfl (by kernel_rfl) (by kernel_rfl) (by kernel_rfl) (by kernel_rfl) (fun _ _ _ h => h) (by rfl) (by assumption) ?_ ?_
        rotate_left
        · (intro wS hSw; (try dsimp only at hSw); go_simp; try with_reducible rfl)
        try simp only [Act.put, List.setIfInBounds_toArray, List.set_cons_zero, List.set_cons_succ]
        refine uTake (i := 15) (some 29) (v := ?_) rfl rfl (by kernel_rfl) (by kernel_rfl) (by kernel_rfl) (by kernel_rfl) (fun _ _ _ h => h) (by rfl) (by assumption) ?_ ?_
        rotate_left
        · (intro wS hSw; (try dsimp only at hSw); go_simp; try with_reducible rfl)
        try simp only [Act.put, List.setIfInBounds_toArray, List.set_cons_zero, List.set_cons_succ]
        refine uTake (i := 16) (some 30) (v := ?_) rfl rfl (by kernel_rfl) (by kernel_rfl) (by kernel_rfl) (by kernel_rfl) (fun _ _ _ h => h) (by rfl) (by assumption) ?_ ?_
        rotate_left
        · (intro wS hSw; (try dsimp only at hSw); go_simp; try with_reducible rfl)
        try simp only [Act.put, List.setIfInBounds_toArray, List.set_cons_zero, List.set_cons_succ]
        refine uTake (i := 17) (some 31) (v := ?_) rfl rfl (by kernel_rfl) (by kernel_rfl) (by kernel_rfl) (by kernel_rfl) (fun _ _ _ h => h) (by rfl) (by assumption) ?_ ?_
        rotate_left
        · (intro wS hSw; (try dsimp only at hSw); go_simp; try with_reducible rfl)
        try simp only [Act.put, List.setIfInBounds_toArray, List.set_cons_zero, List.set_cons_succ]
        refine uTake (i := 18) (some 32) (v := ?_) rfl rfl (by kernel_rfl) (by kernel_rfl) (by kernel_rfl) (by kernel_rfl) (fun _ _ _ h => h) (by rfl) (by assumption) ?_ ?_
        rotate_left
        · (intro wS hSw; (try dsimp only at hSw); go_simp; try with_reducible rfl)
        try simp only [Act.put, List.setIfInBounds_toArray, List.set_cons_zero, List.set_cons_succ]
        refine uPass (i := 19) (some 33) rfl rfl (by kernel_rfl) (by kernel_rfl) (by kernel_rfl) (by kernel_rfl) (fun _ _ _ h => h) (by rfl) (by assumption) ?_
        try simp only [Act.put, List.setIfInBounds_toArray, List.set_cons_zero, List.set_cons_succ]
        refine uPass (i := 20) (some 34) rfl rfl (by kernel_rfl) (by kernel_rfl) (by kernel_rfl) (by kernel_rfl) (fun _ _ _ h => h) (by rfl) (by assumption) ?_
        try simp only [Act.put, List.setIfInBounds_toArray, List.set_cons_zero, List.set_cons_succ]
        refine uPass (i := 21) (some 35) rfl rfl (by kernel_rfl) (by kernel_rfl) (by kernel_rfl) (by kernel_rfl) (fun _ _ _ h => h) (by rfl) (by assumption) ?_
        try simp only [Act.put, List.setIfInBounds_toArray, List.set_cons_zero, List.set_cons_succ]
        refine uPass (i := 22) (some 36) rfl rfl (by kernel_rfl) (by kernel_rfl) (by kernel_rfl) (by kernel_rfl) (fun _ _ _ h => h) (by rfl) (by assumption) ?_
        try simp only [Act.put, List.setIfInBounds_toArray, List.set_cons_zero, List.set_cons_succ]
        refine uPass (i := 23) (some 37) rfl rfl (by kernel_rfl) (by kernel_rfl) (by kernel_rfl) (by kernel_rfl) (fun _ _ _ h => h) (by rfl) (by assumption) ?_
        try simp only [Act.put, List.setIfInBounds_toArray, List.set_cons_zero, List.set_cons_succ]
        refine uPass (i := 24) (some 38) rfl rfl (by kernel_rfl) (by kernel_rfl) (by kernel_rfl) (by kernel_rfl) (fun _ _ _ h => h) (by rfl) (by assumption) ?_
        try simp only [Act.put, List.setIfInBounds_toArray, List.set_cons_zero, List.set_cons_succ]
        refine uPass (i := 25) (some 39) rfl rfl (by kernel_rfl) (by kernel_rfl) (by kernel_rfl) (by kernel_rfl) (fun _ _ _ h => h) (by rfl) (by assumption) ?_
        try simp only [Act.put, List.setIfInBounds_toArray, List.set_cons_zero, List.set_cons_succ]
        refine uPass (i := 26) (some 40) rfl rfl (by kernel_rfl) (by kernel_rfl) (by kernel_rfl) (by kernel_rfl) (fun _ _ _ h => h) (by rfl) (by assumption) ?_
        try simp only [Act.put, List.setIfInBounds_toArray, List.set_cons_zero, List.set_cons_succ]
        refine uTake (i := 27) (some 41) (v := ?_) rfl rfl (by kernel_rfl) (by kernel_rfl) (by kernel_rfl) (by kernel_rfl) (fun _ _ _ h => h) (by rfl) (by assumption) ?_ ?_
        rotate_left
        · (intro wS hSw; (try dsimp only at hSw); go_simp; try with_reducible rfl)
        try simp only [Act.put, List.setIfInBounds_toArray, List.set_cons_zero, List.set_cons_succ]
        refine uDone (by kernel_rfl) ?_ _
        have EZ := Lib.hid (E3.out.forget)
        go_wp2
        go_roundg (l.length - (k + 1))
        case rel => exact ⟨k + 1, rfl, EZ, Lib.hid ⟨⟨by omega, rfl⟩, HS2.out⟩⟩
        case measure => exact by omega
      | true =>
        cases b2 with
        | false =>
          have HS2 : Hid (∀ j (h : j < l.length), j < k + 1 → krOf cn l[j] = false) := Lib.hid (fun j h hj => by by_cases e : j = k; (· subst e; rw [xE.out]; exact HT.out); exact HS.out j h (by omega))
          go_wp2_with fail
          have E3 : Hid (Env D w [(w.heap.size, 31, cn)] [.gn (gRg xab (xao + k * 11) x), .rw (.slice (some ⟨xab, xao, none⟩) l.length xk) l.length 11 l.flatten] (wr.drew)) := Lib.hid E2.out.drew
          clear E2
          refine wp_regionU (S := fun w' => w'.cell? ⟨xab, xao + k * 11, none⟩ = some (.int .i64 (cInt x 0)) ∧ w'.cell? ⟨w.heap.size, 0, none⟩ = some (.int .i64 (cInt cn 0)) ∧ w'.cell? ⟨xab, xao + k * 11 + 1, none⟩ = some (.int .i64 (cInt x 1)) ∧ w'.cell? ⟨w.heap.size, 1, none⟩ = some (.int .i64 (cInt cn 1)) ∧ w'.cell? ⟨xab, xao + k * 11 + 2, none⟩ = some (.int .i64 (cInt x 2)) ∧ w'.cell? ⟨w.heap.size, 2, none⟩ = some (.int .i64 (cInt cn 2))) [] (by kernel_rfl) (⟨(gRg.cell (E3.out.fc 0 rfl) (j := 0) (okKr.at xK.out (by omega))), ((E3.out.bx 0 rfl).cell 0 (okCoin.at hn.out (by omega))), (gRg.cell (E3.out.fc 0 rfl) (j := 1) (okKr.at xK.out (by omega))), ((E3.out.bx 0 rfl).cell 1 (okCoin.at hn.out (by omega))), (gRg.cell (E3.out.fc 0 rfl) (j := 2) (okKr.at xK.out (by omega))), ((E3.out.bx 0 rfl).cell 2 (okCoin.at hn.out (by omega)))⟩) (fun hHeld => ?_)
          generalize wr.drew = w1 at *
          refine uTake (i := 0) (some 14) (v := ?_) rfl rfl (by kernel_rfl) (by kernel_rfl) (by kernel_rfl) (by kernel_rfl) (fun _ _ _ h => h) (by rfl) (by assumption) ?_ ?_
          rotate_left
          · (intro wS hSw; (try dsimp only at hSw); go_simp; try with_reducible rfl)
          try simp only [Act.put, List.setIfInBounds_toArray, List.set_cons_zero, List.set_cons_succ]
          refine uTake (i := 1) (some 15) (v := ?_) rfl rfl (by kernel_rfl) (by kernel_rfl) (by kernel_rfl) (by kernel_rfl) (fun _ _ _ h => h) (by rfl) (by assumption) ?_ ?_
          rotate_left
          · (intro wS hSw; (try dsimp only at hSw); go_simp; try with_reducible rfl)
          try simp only [Act.put, List.setIfInBounds_toArray, List.set_cons_zero, List.set_cons_succ]
          refine uTake (i := 2) (some 16) (v := ?_) rfl rfl (by kernel_rfl) (by kernel_rfl) (by kernel_rfl) (by kernel_rfl) (fun _ _ _ h => h) (by rfl) (by assumption) ?_ ?_
          rotate_left
          · (intro wS hSw; (try dsimp only at hSw); go_simp; try with_reducible rfl)
          try simp only [Act.put, List.setIfInBounds_toArray, List.set_cons_zero, List.set_cons_succ]
          refine uTake (i := 3) (some 17) (v := ?_) rfl rfl (by kernel_rfl) (by kernel_rfl) (by kernel_rfl) (by kernel_rfl) (fun _ _ _ h => h) (by rfl) (by assumption) ?_ ?_
          rotate_left
          · (intro wS hSw; (try dsimp only at hSw); go_simp; try with_reducible rfl)
          try simp only [Act.put, List.setIfInBounds_toArray, List.set_cons_zero, List.set_cons_succ]
          refine uTake (i := 4) (some 18) (v := ?_) rfl rfl (by kernel_rfl) (by kernel_rfl) (by kernel_rfl) (by kernel_rfl) (fun _ _ _ h => h) (by rfl) (by assumption) ?_ ?_
          rotate_left
          · (intro wS hSw; (try dsimp only at hSw); go_simp; try with_reducible rfl)
          try simp only [Act.put, List.setIfInBounds_toArray, List.set_cons_zero, List.set_cons_succ]
          refine uTake (i := 5) (some 19) (v := ?_) rfl rfl (by kernel_rfl) (by kernel_rfl) (by kernel_rfl) (by kernel_rfl) (fun _ _ _ h => h) (by rfl) (by assumption) ?_ ?_
          rotate_left
          · (intro wS hSw; (try dsimp only at hSw); go_simp; try with_reducible rfl)
          try simp only [Act.put, List.setIfInBounds_toArray, List.set_cons_zero, List.set_cons_succ]
          refine uTake (i := 6) (some 20) (v := ?_) rfl rfl (by kernel_rfl) (by kernel_rfl) (by kernel_rfl) (by kernel_rfl) (fun _ _ _ h => h) (by rfl) (by assumption) ?_ ?_
          rotate_left
          · (intro wS hSw; (try dsimp only at hSw); go_simp; try with_reducible rfl)
          try simp only [Act.put, List.setIfInBounds_toArray, List.set_cons_zero, List.set_cons_succ]
          refine uTake (i := 7) (some 21) (v := ?_) rfl rfl (by kernel_rfl) (by kernel_rfl) (by kernel_rfl) (by kernel_rfl) (fun _ _ _ h => h) (by rfl) (by assumption) ?_ ?_
          rotate_left
          · (intro wS hSw; (try dsimp only at hSw); go_simp; try with_reducible rfl)
          try simp only [Act.put, List.setIfInBounds_toArray, List.set_cons_zero, List.set_cons_succ]
          refine uTake (i := 8) (some 22) (v := ?_) rfl rfl (by kernel_rfl) (by kernel_rfl) (by kernel_rfl) (by kernel_rfl) (fun _ _ _ h => h) (by rfl) (by assumption) ?_ ?_
          rotate_left
          · (intro wS hSw; (try dsimp only at hSw); go_simp; try with_reducible rfl)
          try simp only [Act.put, List.setIfInBounds_toArray, List.set_cons_zero, List.set_cons_succ]
          refine uTake (i := 9) (some 23) (v := ?_) rfl rfl (by kernel_rfl) (by kernel_rfl) (by kernel_rfl) (by kernel_rfl) (fun _ _ _ h => h) (by rfl) (by assumption) ?_ ?_
          rotate_left
          · (intro wS hSw; (try dsimp only at hSw); go_simp; try with_reducible rfl)
          try simp only [Act.put, List.setIfInBounds_toArray, List.set_cons_zero, List.set_cons_succ]
          refine uTake (i := 10) (some 24) (v := ?_) rfl rfl (by kernel_rfl) (by kernel_rfl) (by kernel_rfl) (by kernel_rfl) (fun _ _ _ h => h) (by rfl) (by assumption) ?_ ?_
          rotate_left
          · (intro wS hSw; (try dsimp only at hSw); go_simp; try with_reducible rfl)
          try simp only [Act.put, List.setIfInBounds_toArray, List.set_cons_zero, List.set_cons_succ]
          refine uTake (i := 11) (some 25) (v := ?_) rfl rfl (by kernel_rfl) (by kernel_rfl) (by kernel_rfl) (by kernel_rfl) (fun _ _ _ h => h) (by rfl) (by assumption) ?_ ?_
          rotate_left
          · (intro wS hSw; (try dsimp only at hSw); go_simp; try with_reducible rfl)
          try simp only [Act.put, List.setIfInBounds_toArray, List.set_cons_zero, List.set_cons_succ]
          refine uTake (i := 12) (some 26) (v := ?_) rfl rfl (by kernel_rfl) (by kernel_rfl) (by kernel_rfl) (by kernel_rfl) (fun _ _ _ h => h) (by rfl) (by assumption) ?_ ?_
          rotate_left
          · (intro wS hSw; (try dsimp only at hSw); go_simp; try with_reducible rfl)
          try simp only [Act.put, List.setIfInBounds_toArray, List.set_cons_zero, List.set_cons_succ]
          refine uTake (i := 13) (some 27) (v := ?_) rfl rfl (by kernel_rfl) (by kernel_rfl) (by kernel_rfl) (by kernel_rfl) (fun _ _ _ h => h) (by rfl) (by assumption) ?_ ?_
          rotate_left
          · (intro wS hSw; (try dsimp only at hSw); go_simp; try with_reducible rfl)
          try simp only [Act.put, List.setIfInBounds_toArray, List.set_cons_zero, List.set_cons_succ]
          refine uTake (i := 14) (some 28) (v := ?_) rfl rfl (by kernel_rfl) (by kernel_rfl) (by kernel_rfl) (by kernel_rfl) (fun _ _ _ h => h) (by rfl) (by assumption) ?_ ?_
          rotate_left
          · (intro wS hSw; (try dsimp only at hSw); go_simp; try with_reducible rfl)
          try simp only [Act.put, List.setIfInBounds_toArray, List.set_cons_zero, List.set_cons_succ]
          refine uTake (i := 15) (some 29) (v := ?_) rfl rfl (by kernel_rfl) (by kernel_rfl) (by kernel_rfl) (by kernel_rfl) (fun _ _ _ h => h) (by rfl) (by assumption) ?_ ?_
          rotate_left
          · (intro wS hSw; (try dsimp only at hSw); go_simp; try with_reducible rfl)
          try simp only [Act.put, List.setIfInBounds_toArray, List.set_cons_zero, List.set_cons_succ]
          refine uTake (i := 16) (some 30) (v := ?_) rfl rfl (by kernel_rfl) (by kernel_rfl) (by kernel_rfl) (by kernel_rfl) (fun _ _ _ h => h) (by rfl) (by assumption) ?_ ?_
          rotate_left
          · (intro wS hSw; (try dsimp only at hSw); go_simp; try with_reducible rfl)
          try simp only [Act.put, List.setIfInBounds_toArray, List.set_cons_zero, List.set_cons_succ]
          refine uTake (i := 17) (some 31) (v := ?_) rfl rfl (by kernel_rfl) (by kernel_rfl) (by kernel_rfl) (by kernel_rfl) (fun _ _ _ h => h) (by rfl) (by assumption) ?_ ?_
          rotate_left
          · (intro wS hSw; (try dsimp only at hSw); go_simp; try with_reducible rfl)
          try simp only [Act.put, List.setIfInBounds_toArray, List.set_cons_zero, List.set_cons_succ]
          refine uTake (i := 18) (some 32) (v := ?_) rfl rfl (by kernel_rfl) (by kernel_rfl) (by kernel_rfl) (by kernel_rfl) (fun _ _ _ h => h) (by rfl) (by assumption) ?_ ?_
          rotate_left
          · (intro wS hSw; (try dsimp only at hSw); go_simp; try with_reducible rfl)
          try simp only [Act.put, List.setIfInBounds_toArray, List.set_cons_zero, List.set_cons_succ]
          refine uTake (i := 19) (some 33) (v := ?_) rfl rfl (by kernel_rfl) (by kernel_rfl) (by kernel_rfl) (by kernel_rfl) (fun _ _ _ h => h) (by rfl) (by assumption) ?_ ?_
          rotate_left
          · (intro wS hSw; (try dsimp only at hSw); go_simp; try with_reducible rfl)
          try simp only [Act.put, List.setIfInBounds_toArray, List.set_cons_zero, List.set_cons_succ]
          refine uTake (i := 20) (some 34) (v := ?_) rfl rfl (by kernel_rfl) (by kernel_rfl) (by kernel_rfl) (by kernel_rfl) (fun _ _ _ h => h) (by rfl) (by assumption) ?_ ?_
          rotate_left
          · (intro wS hSw; (try dsimp only at hSw); go_simp; try with_reducible rfl)
          try simp only [Act.put, List.setIfInBounds_toArray, List.set_cons_zero, List.set_cons_succ]
          refine uTake (i := 21) (some 35) (v := ?_) rfl rfl (by kernel_rfl) (by kernel_rfl) (by kernel_rfl) (by kernel_rfl) (fun _ _ _ h => h) (by rfl) (by assumption) ?_ ?_
          rotate_left
          · (intro wS hSw; (try dsimp only at hSw); go_simp; try with_reducible rfl)
          try simp only [Act.put, List.setIfInBounds_toArray, List.set_cons_zero, List.set_cons_succ]
          refine uTake (i := 22) (some 36) (v := ?_) rfl rfl (by kernel_rfl) (by kernel_rfl) (by kernel_rfl) (by kernel_rfl) (fun _ _ _ h => h) (by rfl) (by assumption) ?_ ?_
          rotate_left
          · (intro wS hSw; (try dsimp only at hSw); go_simp; try with_reducible rfl)
          try simp only [Act.put, List.setIfInBounds_toArray, List.set_cons_zero, List.set_cons_succ]
          refine uTake (i := 23) (some 37) (v := ?_) rfl rfl (by kernel_rfl) (by kernel_rfl) (by kernel_rfl) (by kernel_rfl) (fun _ _ _ h => h) (by rfl) (by assumption) ?_ ?_
          rotate_left
          · (intro wS hSw; (try dsimp only at hSw); go_simp; try with_reducible rfl)
          try simp only [Act.put, List.setIfInBounds_toArray, List.set_cons_zero, List.set_cons_succ]
          refine uTake (i := 24) (some 38) (v := ?_) rfl rfl (by kernel_rfl) (by kernel_rfl) (by kernel_rfl) (by kernel_rfl) (fun _ _ _ h => h) (by rfl) (by assumption) ?_ ?_
          rotate_left
          · (intro wS hSw; (try dsimp only at hSw); go_simp; try with_reducible rfl)
          try simp only [Act.put, List.setIfInBounds_toArray, List.set_cons_zero, List.set_cons_succ]
          refine uTake (i := 25) (some 39) (v := ?_) rfl rfl (by kernel_rfl) (by kernel_rfl) (by kernel_rfl) (by kernel_rfl) (fun _ _ _ h => h) (by rfl) (by assumption) ?_ ?_
          rotate_left
          · (intro wS hSw; (try dsimp only at hSw); go_simp; try with_reducible rfl)
          try simp only [Act.put, List.setIfInBounds_toArray, List.set_cons_zero, List.set_cons_succ]
          refine uTake (i := 26) (some 40) (v := ?_) rfl rfl (by kernel_rfl) (by kernel_rfl) (by kernel_rfl) (by kernel_rfl) (fun _ _ _ h => h) (by rfl) (by assumption) ?_ ?_
          rotate_left
          · (intro wS hSw; (try dsimp only at hSw); go_simp; try with_reducible rfl)
          try simp only [Act.put, List.setIfInBounds_toArray, List.set_cons_zero, List.set_cons_succ]
          refine uTake (i := 27) (some 41) (v := ?_) rfl rfl (by kernel_rfl) (by kernel_rfl) (by kernel_rfl) (by kernel_rfl) (fun _ _ _ h => h) (by rfl) (by assumption) ?_ ?_
          rotate_left
          · (intro wS hSw; (try dsimp only at hSw); go_simp; try with_reducible rfl)
          try simp only [Act.put, List.setIfInBounds_toArray, List.set_cons_zero, List.set_cons_succ]
          refine uDone (by kernel_rfl) ?_ _
          have EZ := Lib.hid (E3.out.forget)
          go_wp2
          go_roundg (l.length - (k + 1))
          case rel => exact ⟨k + 1, rfl, EZ, Lib.hid ⟨⟨by omega, rfl⟩, HS2.out⟩⟩
          case measure => exact by omega
        | true =>
          have HT2 : Hid (t = decide (cInt x 10 ≤ now)) := Lib.hid (by rw [← ht.out, exp_some hk (by rw [xE.out]; exact HT.out) HS.out, xE.out])
          go_wp2_with fail
          have E3 : Hid (Env D w [(w.heap.size, 31, cn)] [.gn (gRg xab (xao + k * 11) x), .rw (.slice (some ⟨xab, xao, none⟩) l.length xk) l.length 11 l.flatten] (wr.drew)) := Lib.hid E2.out.drew
          clear E2
          refine wp_regionU (S := fun w' => w'.cell? ⟨xab, xao + k * 11, none⟩ = some (.int .i64 (cInt x 0)) ∧ w'.cell? ⟨w.heap.size, 0, none⟩ = some (.int .i64 (cInt cn 0)) ∧ w'.cell? ⟨xab, xao + k * 11 + 1, none⟩ = some (.int .i64 (cInt x 1)) ∧ w'.cell? ⟨w.heap.size, 1, none⟩ = some (.int .i64 (cInt cn 1)) ∧ w'.cell? ⟨xab, xao + k * 11 + 2, none⟩ = some (.int .i64 (cInt x 2)) ∧ w'.cell? ⟨w.heap.size, 2, none⟩ = some (.int .i64 (cInt cn 2))) [] (by kernel_rfl) (⟨(gRg.cell (E3.out.fc 0 rfl) (j := 0) (okKr.at xK.out (by omega))), ((E3.out.bx 0 rfl).cell 0 (okCoin.at hn.out (by omega))), (gRg.cell (E3.out.fc 0 rfl) (j := 1) (okKr.at xK.out (by omega))), ((E3.out.bx 0 rfl).cell 1 (okCoin.at hn.out (by omega))), (gRg.cell (E3.out.fc 0 rfl) (j := 2) (okKr.at xK.out (by omega))), ((E3.out.bx 0 rfl).cell 2 (okCoin.at hn.out (by omega)))⟩) (fun hHeld => ?_)
          generalize wr.drew = w1 at *
          refine uTake (i := 0) (some 14) (v := ?_) rfl rfl (by kernel_rfl) (by kernel_rfl) (by kernel_rfl) (by kernel_rfl) (fun _ _ _ h => h) (by rfl) (by assumption) ?_ ?_
          rotate_left
          · (intro wS hSw; (try dsimp only at hSw); go_simp; try with_reducible rfl)
          try simp only [Act.put, List.setIfInBounds_toArray, List.set_cons_zero, List.set_cons_succ]
          refine uTake (i := 1) (some 15) (v := ?_) rfl rfl (by kernel_rfl) (by kernel_rfl) (by kernel_rfl) (by kernel_rfl) (fun _ _ _ h => h) (by rfl) (by assumption) ?_ ?_
          rotate_left
          · (intro wS hSw; (try dsimp only at hSw); go_simp; try with_reducible rfl)
          try simp only [Act.put, List.setIfInBounds_toArray, List.set_cons_zero, List.set_cons_succ]
          refine uTake (i := 2) (some 16) (v := ?_) rfl rfl (by kernel_rfl) (by kernel_rfl) (by kernel_rfl) (by kernel_rfl) (fun _ _ _ h => h) (by rfl) (by assumption) ?_ ?_
          rotate_left
          · (intro wS hSw; (try dsimp only at hSw); go_simp; try with_reducible rfl)
          try simp only [Act.put, List.setIfInBounds_toArray, List.set_cons_zero, List.set_cons_succ]
          refine uTake (i := 3) (some 17) (v := ?_) rfl rfl (by kernel_rfl) (by kernel_rfl) (by kernel_rfl) (by kernel_rfl) (fun _ _ _ h => h) (by rfl) (by assumption) ?_ ?_
          rotate_left
          · (intro wS hSw; (try dsimp only at hSw); go_simp; try with_reducible rfl)
          try simp only [Act.put, List.setIfInBounds_toArray, List.set_cons_zero, List.set_cons_succ]
          refine uTake (i := 4) (some 18) (v := ?_) rfl rfl (by kernel_rfl) (by kernel_rfl) (by kernel_rfl) (by kernel_rfl) (fun _ _ _ h => h) (by rfl) (by assumption) ?_ ?_
          rotate_left
          · (intro wS hSw; (try dsimp only at hSw); go_simp; try with_reducible rfl)
          try simp only [Act.put, List.setIfInBounds_toArray, List.set_cons_zero, List.set_cons_succ]
          refine uTake (i := 5) (some 19) (v := ?_) rfl rfl (by kernel_rfl) (by kernel_rfl) (by kernel_rfl) (by kernel_rfl) (fun _ _ _ h => h) (by rfl) (by assumption) ?_ ?_
          rotate_left
          · (intro wS hSw; (try dsimp only at hSw); go_simp; try with_reducible rfl)
          try simp only [Act.put, List.setIfInBounds_toArray, List.set_cons_zero, List.set_cons_succ]
          refine uTake (i := 6) (some 20) (v := ?_) rfl rfl (by kernel_rfl) (by kernel_rfl) (by kernel_rfl) (by kernel_rfl) (fun _ _ _ h => h) (by rfl) (by assumption) ?_ ?_
          rotate_left
          · (intro wS hSw; (try dsimp only at hSw); go_simp; try with_reducible rfl)
          try simp only [Act.put, List.setIfInBounds_toArray, List.set_cons_zero, List.set_cons_succ]
          refine uTake (i := 7) (some 21) (v := ?_) rfl rfl (by kernel_rfl) (by kernel_rfl) (by kernel_rfl) (by kernel_rfl) (fun _ _ _ h => h) (by rfl) (by assumption) ?_ ?_
          rotate_left
          · (intro wS hSw; (try dsimp only at hSw); go_simp; try with_reducible rfl)
          try simp only [Act.put, List.setIfInBounds_toArray, List.set_cons_zero, List.set_cons_succ]
          refine uTake (i := 8) (some 22) (v := ?_) rfl rfl (by kernel_rfl) (by kernel_rfl) (by kernel_rfl) (by kernel_rfl) (fun _ _ _ h => h) (by rfl) (by assumption) ?_ ?_
          rotate_left
          · (intro wS hSw; (try dsimp only at hSw); go_simp; try with_reducible rfl)
          try simp only [Act.put, List.setIfInBounds_toArray, List.set_cons_zero, List.set_cons_succ]
          refine uTake (i := 9) (some 23) (v := ?_) rfl rfl (by kernel_rfl) (by kernel_rfl) (by kernel_rfl) (by kernel_rfl) (fun _ _ _ h => h) (by rfl) (by assumption) ?_ ?_
          rotate_left
          · (intro wS hSw; (try dsimp only at hSw); go_simp; try with_reducible rfl)
          try simp only [Act.put, List.setIfInBounds_toArray, List.set_cons_zero, List.set_cons_succ]
          refine uTake (i := 10) (some 24) (v := ?_) rfl rfl (by kernel_rfl) (by kernel_rfl) (by kernel_rfl) (by kernel_rfl) (fun _ _ _ h => h) (by rfl) (by assumption) ?_ ?_
          rotate_left
          · (intro wS hSw; (try dsimp only at hSw); go_simp; try with_reducible rfl)
          try simp only [Act.put, List.setIfInBounds_toArray, List.set_cons_zero, List.set_cons_succ]
          refine uTake (i := 11) (some 25) (v := ?_) rfl rfl (by kernel_rfl) (by kernel_rfl) (by kernel_rfl) (by kernel_rfl) (fun _ _ _ h => h) (by rfl) (by assumption) ?_ ?_
          rotate_left
          · (intro wS hSw; (try dsimp only at hSw); go_simp; try with_reducible rfl)
          try simp only [Act.put, List.setIfInBounds_toArray, List.set_cons_zero, List.set_cons_succ]
          refine uTake (i := 12) (some 26) (v := ?_) rfl rfl (by kernel_rfl) (by kernel_rfl) (by kernel_rfl) (by kernel_rfl) (fun _ _ _ h => h) (by rfl) (by assumption) ?_ ?_
          rotate_left
          · (intro wS hSw; (try dsimp only at hSw); go_simp; try with_reducible rfl)
          try simp only [Act.put, List.setIfInBounds_toArray, List.set_cons_zero, List.set_cons_succ]
          refine uTake (i := 13) (some 27) (v := ?_) rfl rfl (by kernel_rfl) (by kernel_rfl) (by kernel_rfl) (by kernel_rfl) (fun _ _ _ h => h) (by rfl) (by assumption) ?_ ?_
          rotate_left
          · (intro wS hSw; (try dsimp only at hSw); go_simp; try with_reducible rfl)
          try simp only [Act.put, List.setIfInBounds_toArray, List.set_cons_zero, List.set_cons_succ]
          refine uTake (i := 14) (some 28) (v := ?_) rfl rfl (by kernel_rfl) (by kernel_rfl) (by kernel_rfl) (by kernel_rfl) (fun _ _ _ h => h) (by rfl) (by assumption) ?_ ?_
          rotate_left
          · (intro wS hSw; (try dsimp only at hSw); go_simp; try with_reducible rfl)
          try simp only [Act.put, List.setIfInBounds_toArray, List.set_cons_zero, List.set_cons_succ]
          refine uTake (i := 15) (some 29) (v := ?_) rfl rfl (by kernel_rfl) (by kernel_rfl) (by kernel_rfl) (by kernel_rfl) (fun _ _ _ h => h) (by rfl) (by assumption) ?_ ?_
          rotate_left
          · (intro wS hSw; (try dsimp only at hSw); go_simp; try with_reducible rfl)
          try simp only [Act.put, List.setIfInBounds_toArray, List.set_cons_zero, List.set_cons_succ]
          refine uTake (i := 16) (some 30) (v := ?_) rfl rfl (by kernel_rfl) (by kernel_rfl) (by kernel_rfl) (by kernel_rfl) (fun _ _ _ h => h) (by rfl) (by assumption) ?_ ?_
          rotate_left
          · (intro wS hSw; (try dsimp only at hSw); go_simp; try with_reducible rfl)
          try simp only [Act.put, List.setIfInBounds_toArray, List.set_cons_zero, List.set_cons_succ]
          refine uTake (i := 17) (some 31) (v := ?_) rfl rfl (by kernel_rfl) (by kernel_rfl) (by kernel_rfl) (by kernel_rfl) (fun _ _ _ h => h) (by rfl) (by assumption) ?_ ?_
          rotate_left
          · (intro wS hSw; (try dsimp only at hSw); go_simp; try with_reducible rfl)
          try simp only [Act.put, List.setIfInBounds_toArray, List.set_cons_zero, List.set_cons_succ]
          refine uTake (i := 18) (some 32) (v := ?_) rfl rfl (by kernel_rfl) (by kernel_rfl) (by kernel_rfl) (by kernel_rfl) (fun _ _ _ h => h) (by rfl) (by assumption) ?_ ?_
          rotate_left
          · (intro wS hSw; (try dsimp only at hSw); go_simp; try with_reducible rfl)
          try simp only [Act.put, List.setIfInBounds_toArray, List.set_cons_zero, List.set_cons_succ]
          refine uTake (i := 19) (some 33) (v := ?_) rfl rfl (by kernel_rfl) (by kernel_rfl) (by kernel_rfl) (by kernel_rfl) (fun _ _ _ h => h) (by rfl) (by assumption) ?_ ?_
          rotate_left
          · (intro wS hSw; (try dsimp only at hSw); go_simp; try with_reducible rfl)
          try simp only [Act.put, List.setIfInBounds_toArray, List.set_cons_zero, List.set_cons_succ]
          refine uTake (i := 20) (some 34) (v := ?_) rfl rfl (by kernel_rfl) (by kernel_rfl) (by kernel_rfl) (by kernel_rfl) (fun _ _ _ h => h) (by rfl) (by assumption) ?_ ?_
          rotate_left
          · (intro wS hSw; (try dsimp only at hSw); go_simp; try with_reducible rfl)
          try simp only [Act.put, List.setIfInBounds_toArray, List.set_cons_zero, List.set_cons_succ]
          refine uTake (i := 21) (some 35) (v := ?_) rfl rfl (by kernel_rfl) (by kernel_rfl) (by kernel_rfl) (by kernel_rfl) (fun _ _ _ h => h) (by rfl) (by assumption) ?_ ?_
          rotate_left
          · (intro wS hSw; (try dsimp only at hSw); go_simp; try with_reducible rfl)
          try simp only [Act.put, List.setIfInBounds_toArray, List.set_cons_zero, List.set_cons_succ]
          refine uTake (i := 22) (some 36) (v := ?_) rfl rfl (by kernel_rfl) (by kernel_rfl) (by kernel_rfl) (by kernel_rfl) (fun _ _ _ h => h) (by rfl) (by assumption) ?_ ?_
          rotate_left
          · (intro wS hSw; (try dsimp only at hSw); go_simp; try with_reducible rfl)
          try simp only [Act.put, List.setIfInBounds_toArray, List.set_cons_zero, List.set_cons_succ]
          refine uTake (i := 23) (some 37) (v := ?_) rfl rfl (by kernel_rfl) (by kernel_rfl) (by kernel_rfl) (by kernel_rfl) (fun _ _ _ h => h) (by rfl) (by assumption) ?_ ?_
          rotate_left
          · (intro wS hSw; (try dsimp only at hSw); go_simp; try with_reducible rfl)
          try simp only [Act.put, List.setIfInBounds_toArray, List.set_cons_zero, List.set_cons_succ]
          refine uTake (i := 24) (some 38) (v := ?_) rfl rfl (by kernel_rfl) (by kernel_rfl) (by kernel_rfl) (by kernel_rfl) (fun _ _ _ h => h) (by rfl) (by assumption) ?_ ?_
          rotate_left
          · (intro wS hSw; (try dsimp only at hSw); go_simp; try with_reducible rfl)
          try simp only [Act.put, List.setIfInBounds_toArray, List.set_cons_zero, List.set_cons_succ]
          refine uTake (i := 25) (some 39) (v := ?_) rfl rfl (by kernel_rfl) (by kernel_rfl) (by kernel_rfl) (by kernel_rfl) (fun _ _ _ h => h) (by rfl) (by assumption) ?_ ?_
          rotate_left
          · (intro wS hSw; (try dsimp only at hSw); go_simp; try with_reducible rfl)
          try simp only [Act.put, List.setIfInBounds_toArray, List.set_cons_zero, List.set_cons_succ]
          refine uTake (i := 26) (some 40) (v := ?_) rfl rfl (by kernel_rfl) (by kernel_rfl) (by kernel_rfl) (by kernel_rfl) (fun _ _ _ h => h) (by rfl) (by assumption) ?_ ?_
          rotate_left
          · (intro wS hSw; (try dsimp only at hSw); go_simp; try with_reducible rfl)
          try simp only [Act.put, List.setIfInBounds_toArray, List.set_cons_zero, List.set_cons_succ]
          refine uTake (i := 27) (some 41) (v := ?_) rfl rfl (by kernel_rfl) (by kernel_rfl) (by kernel_rfl) (by kernel_rfl) (fun _ _ _ h => h) (by rfl) (by assumption) ?_ ?_
          rotate_left
          · (intro wS hSw; (try dsimp only at hSw); go_simp; try with_reducible rfl)
          try simp only [Act.put, List.setIfInBounds_toArray, List.set_cons_zero, List.set_cons_succ]
          refine uDone (by kernel_rfl) ?_ _
          have c1 : World.cell? _ ⟨xab, xao + k * 11 + 10, none⟩ = some (.int .i64 (cInt x 10)) := gRg.cell (E3.out.fc 0 rfl) (j := 10) (okKr.at xK.out (by omega))
          have hfin := Lib.hid E3.out.bel
          go_wp2
          go_ret
          exact ⟨RetEqB HT2.out.symm, hfin.out⟩
end Go.Proofs.Ytfnnfmefihiefaa

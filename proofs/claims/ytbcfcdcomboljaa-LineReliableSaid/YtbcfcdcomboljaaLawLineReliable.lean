/- specielaw39: LineReliable. -/
import Derived.Test.YtbcfcdcomboljaaLinLb
import Derived.Test.YtbcfcdcomboljaaLinRl
import Derived.Deep.DeepCutAuto
import Derived.Deep.CutBlock
namespace Go.Proofs.Ytbcfcdcomboljaa
open Go.RowKit
set_option linter.unusedVariables false
set_option linter.unusedSimpArgs false
theorem New_rl (B : List Nat) {D : Nat → Prop} {w : World} : Calls Try.prog 33 #[.slice none 0 0] w fun e w' => RetLE (fun b => D b ∨ w.heap.size ≤ b) (RL B 0 []) 0 e w' ∧ Below w.heap.size w w' :=
  New_ok [] (Rw.nil _ _ _) (Nat.zero_le _) (fun k h => absurd h (Nat.not_lt_zero _))
theorem range_j {k : Nat} (h : k ≤ 60) : (List.range k).length ≤ 60 ∧ ∀ j ∈ List.range k, j < 60 := ⟨by simpa using h, fun j hj => by have := List.mem_range.1 hj; omega⟩
theorem Lf_j {b : List Nat} {n p i : Nat} (h : n ≤ 60) : (Lf b n p i).length ≤ 60 ∧ ∀ j ∈ Lf b n p i, j < 60 := ⟨by have := Lf_len b n p i; omega, fun j hj => by have := (Lf_mem.1 hj).1; omega⟩
theorem Send_rl {B js : List Nat} {k : Nat} (hk : k < 60) (hj : js = rg k) {xa xb xc : Option Addr} {xj xk xm : Nat} {D : Nat → Prop} {w : World} (h1 : Fct.at w D (.ms (.slice xa (RL B 0 js).L.length xj) (RL B 0 js).L)) (h2 : Fct.at w D (.rw (.slice xb (RL B 0 js).ats.length xk) (RL B 0 js).ats.length 1 (icl (RL B 0 js).ats))) (h3 : Fct.at w D (.rw (.slice xc (RL B 0 js).ft.length xm) (RL B 0 js).ft.length 2 (fcl (RL B 0 js).ft))) :
    Calls Try.prog 34 #[.agg #[.int .i64 (RL B 0 js).nw, .slice xa (RL B 0 js).L.length xj, .slice xb (RL B 0 js).ats.length xk, .slice xc (RL B 0 js).ft.length xm], .agg #[.int .i64 0, .int .i64 (bpt B k : Nat), .int .i64 0, .int .i64 (k : Nat), .slice none 0 0]] w fun e w' => RetLE (fun b => D b ∨ w.heap.size ≤ b) (RL B 0 (rg (k + 1))) 0 e w' ∧ Below w.heap.size w w' := by
  unfold rg at hj ⊢
  subst hj
  have := Send_ok (M := toM B k) (c := 1) (d := 0) (i := (List.range k).length) h1 h2 h3 (ma := none) (mk := 0) (Bs.nil _ _) (RL_ok (Int.le_refl _) (by decide) (range_j (by omega)).1 (range_j (by omega)).2) (toM_ok B hk) rfl (RL_place B _) (RL_big (range_j (by omega)).1) (Nat.zero_le _) (by simp [RL]; omega)
  rw [RL_send] at this
  exact this
theorem Go_rl {B js : List Nat} {now : Int} (h0 : 0 ≤ now) (h9 : now ≤ 65535) (hj : js.length ≤ 60 ∧ ∀ j ∈ js, j < 60) {xa xb xc : Option Addr} {xj xk xm : Nat} {D : Nat → Prop} {w : World} (h1 : Fct.at w D (.ms (.slice xa (RL B 0 js).L.length xj) (RL B 0 js).L)) (h2 : Fct.at w D (.rw (.slice xb (RL B 0 js).ats.length xk) (RL B 0 js).ats.length 1 (icl (RL B 0 js).ats))) (h3 : Fct.at w D (.rw (.slice xc (RL B 0 js).ft.length xm) (RL B 0 js).ft.length 2 (fcl (RL B 0 js).ft))) :
    Calls Try.prog 37 #[.agg #[.int .i64 (RL B 0 js).nw, .slice xa (RL B 0 js).L.length xj, .slice xb (RL B 0 js).ats.length xk, .slice xc (RL B 0 js).ft.length xm], .int .i64 now] w fun e w' => RetLE (fun b => D b ∨ w.heap.size ≤ b) (RL B now js) 0 e w' ∧ Below w.heap.size w w' := by
  exact Go_ok (RL B 0 js) now h1 h2 h3 (RL_ok (Int.le_refl _) (by decide) hj.1 hj.2) (by unfold wth; simp only [Bool.and_eq_true, decide_eq_true_eq]; omega) (by simp [RL]; omega) (RL_big hj.1) (by have := hj.1; simp [RL]; omega)
theorem Receive_rl {B js : List Nat} {now : Int} {n p i : Nat} (h0 : 0 ≤ now) (h9 : now ≤ 65535) (hn : n ≤ 60) (hi : i < n) (hp : bpt B i = p) (hj : js = Lf B n p i) {xa xb xc : Option Addr} {xj xk xm : Nat} {D : Nat → Prop} {w : World} (h1 : Fct.at w D (.ms (.slice xa (RL B now js).L.length xj) (RL B now js).L)) (h2 : Fct.at w D (.rw (.slice xb (RL B now js).ats.length xk) (RL B now js).ats.length 1 (icl (RL B now js).ats))) (h3 : Fct.at w D (.rw (.slice xc (RL B now js).ft.length xm) (RL B now js).ft.length 2 (fcl (RL B now js).ft))) :
    Calls Try.prog 36 #[.agg #[.int .i64 (RL B now js).nw, .slice xa (RL B now js).L.length xj, .slice xb (RL B now js).ats.length xk, .slice xc (RL B now js).ft.length xm], .int .i64 (p : Nat)] w fun e w' => RetLME (fun b => D b ∨ w.heap.size ≤ b) (RL B now (Lf B n p (i + 1))) (toM B i) 0 e w' ∧ Below w.heap.size w w' := by
  subst hj
  obtain ⟨f, hf, he, hb, hr⟩ := Lf_at hi hp
  have hf' : f < (RL B now (Lf B n p i)).L.length := by simpa [RL] using hf
  have := Receive_ok (RL B now (Lf B n p i)) (p : Int) f (toM B i) h1 h2 h3 (RL_ok h0 h9 (Lf_j hn).1 (Lf_j hn).2) (RL_first h0 hf he hp hb) (RL_big (Lf_j hn).1) (by have := (Lf_j (b := B) (p := p) (i := i) hn).1; simp [RL]; omega) hf' (by simp only [RL, List.getElem_map, he])
  rw [RL_recv, hr] at this
  exact this
theorem Receive_rn {B js : List Nat} {now : Int} {n p : Nat} (h0 : 0 ≤ now) (h9 : now ≤ 65535) (hn : n ≤ 60) (hj : js = Lf B n p n) {xa xb xc : Option Addr} {xj xk xm : Nat} {D : Nat → Prop} {w : World} (h1 : Fct.at w D (.ms (.slice xa (RL B now js).L.length xj) (RL B now js).L)) (h2 : Fct.at w D (.rw (.slice xb (RL B now js).ats.length xk) (RL B now js).ats.length 1 (icl (RL B now js).ats))) (h3 : Fct.at w D (.rw (.slice xc (RL B now js).ft.length xm) (RL B now js).ft.length 2 (fcl (RL B now js).ft))) :
    Calls Try.prog 36 #[.agg #[.int .i64 (RL B now js).nw, .slice xa (RL B now js).L.length xj, .slice xb (RL B now js).ats.length xk, .slice xc (RL B now js).ft.length xm], .int .i64 (p : Nat)] w fun e w' => RetLME (fun b => D b ∨ w.heap.size ≤ b) L0 M0 7 e w' ∧ Below w.heap.size w w' := by
  subst hj
  rw [Lf_next] at h1 h2 h3 ⊢
  exact Receive_none _ _ h1 h2 h3 (RL_ok h0 h9 (Lf_j hn).1 (Lf_j hn).2) (.inr ⟨rfl, RL_none h0⟩) (by have := (Lf_j (b := B) (p := p + 1) (i := 0) hn).1; simp [RL]; omega)
theorem Waiting_rn {B js : List Nat} {now : Int} {n p : Nat} (h0 : 0 ≤ now) (h9 : now ≤ 65535) (hn : n ≤ 60) (hj : js = Lf B n p n) {xa xb xc : Option Addr} {xj xk xm : Nat} {D : Nat → Prop} {w : World} (h1 : Fct.at w D (.ms (.slice xa (RL B now js).L.length xj) (RL B now js).L)) (h2 : Fct.at w D (.rw (.slice xb (RL B now js).ats.length xk) (RL B now js).ats.length 1 (icl (RL B now js).ats))) (h3 : Fct.at w D (.rw (.slice xc (RL B now js).ft.length xm) (RL B now js).ft.length 2 (fcl (RL B now js).ft))) :
    Calls Try.prog 35 #[.agg #[.int .i64 (RL B now js).nw, .slice xa (RL B now js).L.length xj, .slice xb (RL B now js).ats.length xk, .slice xc (RL B now js).ft.length xm], .int .i64 (p : Nat)] w fun e w' => e = .returned (.int .i64 0) ∧ Below w.heap.size w w' := by
  subst hj
  rw [Lf_next] at h1 h2 h3 ⊢
  have := Waiting_ok _ (p : Int) h1 h2 h3 (RL_ok h0 h9 (Lf_j hn).1 (Lf_j hn).2)
  rw [wcnt_zero (RL_none h0)] at this
  exact this
theorem Next_rl {B js : List Nat} {now : Int} (h0 : 0 ≤ now) (h9 : now ≤ 65535) (hj : js.length ≤ 60 ∧ ∀ j ∈ js, j < 60) {xa xb xc : Option Addr} {xj xk xm : Nat} {D : Nat → Prop} {w : World} (h1 : Fct.at w D (.ms (.slice xa (RL B now js).L.length xj) (RL B now js).L)) (h2 : Fct.at w D (.rw (.slice xb (RL B now js).ats.length xk) (RL B now js).ats.length 1 (icl (RL B now js).ats))) (h3 : Fct.at w D (.rw (.slice xc (RL B now js).ft.length xm) (RL B now js).ft.length 2 (fcl (RL B now js).ft))) :
    Calls Try.prog 39 #[.agg #[.int .i64 (RL B now js).nw, .slice xa (RL B now js).L.length xj, .slice xb (RL B now js).ats.length xk, .slice xc (RL B now js).ft.length xm]] w fun e w' => e = .returned (.tuple #[.int .i64 0, .bool false]) ∧ Below w.heap.size w w' := by
  exact Next_ok _ h1 h2 h3 (RL_next B js h0) (RL_ok h0 h9 hj.1 hj.2)
set_option maxRecDepth 100000 in
set_option maxHeartbeats 1000000 in
theorem rel_skip {D : Nat → Prop} (B : List Nat) (go1 : Int) {ba : Option Addr} {bk : Nat} {w : World} (hb : Fct.at w D (.bs (.slice ba B.length bk) B)) (hl : 60 < B.length) :
    Calls Try.prog 8 #[.slice ba B.length bk, .int .u16 go1] w fun e w' => e = .returned (.bool true) ∧ Below w.heap.size w w' := by
  have E0 : Hid (Env D w [] [.bs (.slice ba B.length bk) B] w) := Lib.hid ((Env.start D w).arg (.bs (.slice ba B.length bk) B) hb)
  clear hb
  go_enter Try.func8, Try.ntmps8
  have d1 : decide ((60 : Int) < (B.length : Int)) = true := decide_eq_true (by omega)
  go_wp2_with fail
  refine (awake_c (D := (DF D w.heap.size []))).mono ?_
  rintro e w1 ⟨rfl, hb⟩
  have E1 : Hid (Env D w [] [.bs (.slice ba B.length bk) B] w1) := Lib.hid (E0.out.below hb)
  clear E0 hb
  go_wp2_with fail
  refine (awake_c (D := (DF D w.heap.size []))).mono ?_
  rintro e w2 ⟨rfl, hb⟩
  have E2 : Hid (Env D w [] [.bs (.slice ba B.length bk) B] w2) := Lib.hid (E1.out.below hb)
  clear E1 hb
  have hfin := Lib.hid E2.out.bel
  go_wp2
  go_ret
  exact ⟨rfl, hfin.out⟩
set_option maxRecDepth 100000 in
set_option maxHeartbeats 4000000 in
theorem rel_main {D : Nat → Prop} (B : List Nat) (go1 : Int) {ba : Option Addr} {bk : Nat} {w : World} (hb : Fct.at w D (.bs (.slice ba B.length bk) B)) (hl : B.length ≤ 60) (hg0 : 0 ≤ go1 ∧ go1 ≤ 65535) :
    Calls Try.prog 8 #[.slice ba B.length bk, .int .u16 go1] w fun e w' => e = .returned (.bool true) ∧ Below w.heap.size w w' := by
  have E0 : Hid (Env D w [] [.bs (.slice ba B.length bk) B] w) := Lib.hid ((Env.start D w).arg (.bs (.slice ba B.length bk) B) hb)
  clear hb
  go_enter Try.func8, Try.ntmps8
  have d1 : decide ((60 : Int) < (B.length : Int)) = false := decide_eq_false (by omega)
  obtain ⟨g0, g9⟩ := hg0
  have hgo : wrap64 go1 = go1 := IntWalk.wrap64_in _ (by omega)
  go_wp2_with fail
  refine (awake_c (D := (DF D w.heap.size []))).mono ?_
  rintro e w1 ⟨rfl, hb⟩
  have E1 : Hid (Env D w [] [.bs (.slice ba B.length bk) B] w1) := Lib.hid (E0.out.below hb)
  clear E0 hb
  go_wp2_with fail
  refine (New_rl B (D := (DF D w.heap.size []))).mono ?_
  rintro e w2 ⟨⟨nv, rfl, na, nj, nb, nk, nc, nm, rfl, n1, n2, n3⟩, hb⟩
  have E2 : Hid (Env D w [] [.rw (.slice nc (RL B 0 []).ft.length nm) (RL B 0 []).ft.length 2 (fcl (RL B 0 []).ft), .rw (.slice nb (RL B 0 []).ats.length nk) (RL B 0 []).ats.length 1 (icl (RL B 0 []).ats), .ms (.slice na (RL B 0 []).L.length nj) (RL B 0 []).L, .bs (.slice ba B.length bk) B] w2) := Lib.hid (E1.out.got (E1.out.got (E1.out.got (E1.out.below hb) (.ms (.slice na (RL B 0 []).L.length nj) (RL B 0 []).L) n1.out) (.rw (.slice nb (RL B 0 []).ats.length nk) (RL B 0 []).ats.length 1 (icl (RL B 0 []).ats)) n2.out) (.rw (.slice nc (RL B 0 []).ft.length nm) (RL B 0 []).ft.length 2 (fcl (RL B 0 []).ft)) n3.out)
  clear E1 hb n1 n2 n3
  go_wp2_with fail
  have E3 : Hid (Env D w [(w2.heap.size, 64, [.int .i64 (RL B 0 []).nw, .slice na (RL B 0 []).L.length nj, .slice nb (RL B 0 []).ats.length nk, .slice nc (RL B 0 []).ft.length nm])] [.rw (.slice nc (RL B 0 []).ft.length nm) (RL B 0 []).ft.length 2 (fcl (RL B 0 []).ft), .rw (.slice nb (RL B 0 []).ats.length nk) (RL B 0 []).ats.length 1 (icl (RL B 0 []).ats), .ms (.slice na (RL B 0 []).L.length nj) (RL B 0 []).L, .bs (.slice ba B.length bk) B] _) := Lib.hid ((E2.out.push 64 [.int .i64 (RL B 0 []).nw, .slice na (RL B 0 []).L.length nj, .slice nb (RL B 0 []).ats.length nk, .slice nc (RL B 0 []).ft.length nm] (w2.heap.size) (by simp)))
  go_loopg [34, 6] (B.length) (fun gk s34 s6 wr => ∃ (k : Nat) (js : List Nat) (na : Option Addr) (nj : Nat) (nb : Option Addr) (nk : Nat) (nc : Option Addr) (nm : Nat), s34 = .int .i64 (k : Int) ∧ s6 = .int .i64 0 ∧ Hid (Env D w [(w2.heap.size, 64, [.int .i64 (RL B 0 js).nw, .slice na (RL B 0 js).L.length nj, .slice nb (RL B 0 js).ats.length nk, .slice nc (RL B 0 js).ft.length nm])] [.ms (.slice na (RL B 0 js).L.length nj) (RL B 0 js).L, .rw (.slice nb (RL B 0 js).ats.length nk) (RL B 0 js).ats.length 1 (icl (RL B 0 js).ats), .rw (.slice nc (RL B 0 js).ft.length nm) (RL B 0 js).ft.length 2 (fcl (RL B 0 js).ft), .bs (.slice ba B.length bk) B] wr) ∧ Hid ((k ≤ B.length ∧ gk = B.length - k) ∧ js = rg k))
  case atStart => exact ⟨0, [], na, nj, nb, nk, nc, nm, rfl, rfl, Lib.hid ⟨E3.out.bel, E3.out.box, ⟨E3.out.fc 2 rfl, ⟨E3.out.fc 1 rfl, ⟨E3.out.fc 0 rfl, ⟨E3.out.fc 3 rfl, trivial⟩⟩⟩⟩⟩, Lib.hid ⟨⟨Nat.zero_le _, rfl⟩, rfl⟩⟩
  case round =>
    clear E2 E3
    obtain ⟨k, js, na, nj, nb, nk, nc, nm, rfl, rfl, EL, HA⟩ := hrel
    obtain ⟨⟨a1, a2⟩, a3⟩ := HA.out
    have HJ := Lib.hid a3
    clear a3 HA
    by_cases hy : k = B.length
    rotate_left
    · have hk : k < B.length := by omega
      have t6 : decide ((k : Int) < (B.length : Int)) = true := decide_eq_true (by omega)
      have t7 : decide (k < B.length) = true := decide_eq_true hk
      clear hy
      obtain ⟨bab, bao, rfl⟩ := Bs.addr (EL.out.fc 3 rfl) hk
      have hbp := bpt_rem (EL.out.fc 3 rfl) hk
      have E4 : Hid (Env D w [(w2.heap.size, 64, [.int .i64 (RL B 0 js).nw, .slice na (RL B 0 js).L.length nj, .slice nb (RL B 0 js).ats.length nk, .slice nc (RL B 0 js).ft.length nm])] [.ce bab (bao + k) (.int .u8 (B[k] : Nat)), .ms (.slice na (RL B 0 js).L.length nj) (RL B 0 js).L, .rw (.slice nb (RL B 0 js).ats.length nk) (RL B 0 js).ats.length 1 (icl (RL B 0 js).ats), .rw (.slice nc (RL B 0 js).ft.length nm) (RL B 0 js).ft.length 2 (fcl (RL B 0 js).ft), .bs (.slice (some ⟨bab, bao, none⟩) B.length bk) B] _) := Lib.hid (EL.out.elB 3 rfl k hk)
      clear EL
      have u0 := (E4.out.fc 0 rfl).2
      have b1 := E4.out.bx 0 rfl
      have c1_0 := b1.cell 0 rfl
      have c1_1 := b1.cell 1 rfl
      have c1_2 := b1.cell 2 rfl
      have c1_3 := b1.cell 3 rfl
      clear b1
      go_wp2_with fail
      refine (Send_rl (B := B) (by omega) HJ.out (E4.out.fc 1 rfl) (E4.out.fc 2 rfl) (E4.out.fc 3 rfl)).mono ?_
      rintro e w3 ⟨⟨vv, rfl, va, vj, vb, vk, vc, vm, rfl, v1, v2, v3⟩, hb⟩
      have E5 : Hid (Env D w [(w2.heap.size, 64, [.int .i64 (RL B 0 js).nw, .slice na (RL B 0 js).L.length nj, .slice nb (RL B 0 js).ats.length nk, .slice nc (RL B 0 js).ft.length nm])] [.rw (.slice vc (RL B 0 (rg (k + 1))).ft.length vm) (RL B 0 (rg (k + 1))).ft.length 2 (fcl (RL B 0 (rg (k + 1))).ft), .rw (.slice vb (RL B 0 (rg (k + 1))).ats.length vk) (RL B 0 (rg (k + 1))).ats.length 1 (icl (RL B 0 (rg (k + 1))).ats), .ms (.slice va (RL B 0 (rg (k + 1))).L.length vj) (RL B 0 (rg (k + 1))).L, .ce bab (bao + k) (.int .u8 (B[k] : Nat)), .ms (.slice na (RL B 0 js).L.length nj) (RL B 0 js).L, .rw (.slice nb (RL B 0 js).ats.length nk) (RL B 0 js).ats.length 1 (icl (RL B 0 js).ats), .rw (.slice nc (RL B 0 js).ft.length nm) (RL B 0 js).ft.length 2 (fcl (RL B 0 js).ft), .bs (.slice (some ⟨bab, bao, none⟩) B.length bk) B] w3) := Lib.hid (E4.out.got (E4.out.got (E4.out.got (E4.out.below hb) (.ms (.slice va (RL B 0 (rg (k + 1))).L.length vj) (RL B 0 (rg (k + 1))).L) v1.out) (.rw (.slice vb (RL B 0 (rg (k + 1))).ats.length vk) (RL B 0 (rg (k + 1))).ats.length 1 (icl (RL B 0 (rg (k + 1))).ats)) v2.out) (.rw (.slice vc (RL B 0 (rg (k + 1))).ft.length vm) (RL B 0 (rg (k + 1))).ft.length 2 (fcl (RL B 0 (rg (k + 1))).ft)) v3.out)
      clear u0 c1_0 c1_1 c1_2 c1_3 E4 hb v1 v2 v3
      have b2 := E5.out.bx 0 rfl
      have c2_0 := b2.cell 0 rfl
      have c2_1 := b2.cell 1 rfl
      have c2_2 := b2.cell 2 rfl
      have c2_3 := b2.cell 3 rfl
      have f2_0 := b2.frozen 0
      have f2_1 := b2.frozen 1
      have f2_2 := b2.frozen 2
      have f2_3 := b2.frozen 3
      clear b2
      have E6 : Hid (Env D w [(w2.heap.size, 64, [.int .i64 (RL B 0 (rg (k + 1))).nw, .slice va (RL B 0 (rg (k + 1))).L.length vj, .slice vb (RL B 0 (rg (k + 1))).ats.length vk, .slice vc (RL B 0 (rg (k + 1))).ft.length vm])] [.rw (.slice vc (RL B 0 (rg (k + 1))).ft.length vm) (RL B 0 (rg (k + 1))).ft.length 2 (fcl (RL B 0 (rg (k + 1))).ft), .rw (.slice vb (RL B 0 (rg (k + 1))).ats.length vk) (RL B 0 (rg (k + 1))).ats.length 1 (icl (RL B 0 (rg (k + 1))).ats), .ms (.slice va (RL B 0 (rg (k + 1))).L.length vj) (RL B 0 (rg (k + 1))).L, .ce bab (bao + k) (.int .u8 (B[k] : Nat)), .ms (.slice na (RL B 0 js).L.length nj) (RL B 0 js).L, .rw (.slice nb (RL B 0 js).ats.length nk) (RL B 0 js).ats.length 1 (icl (RL B 0 js).ats), .rw (.slice nc (RL B 0 js).ft.length nm) (RL B 0 js).ft.length 2 (fcl (RL B 0 js).ft), .bs (.slice (some ⟨bab, bao, none⟩) B.length bk) B] _) := Lib.hid (((((E5.out.set 0 0 (.int .i64 (RL B 0 (rg (k + 1))).nw) rfl).set 0 1 (.slice va (RL B 0 (rg (k + 1))).L.length vj) rfl).set 0 2 (.slice vb (RL B 0 (rg (k + 1))).ats.length vk) rfl).set 0 3 (.slice vc (RL B 0 (rg (k + 1))).ft.length vm) rfl))
      have hZ := E6.out
      have EZ : Hid (Env D w [(w2.heap.size, 64, [.int .i64 (RL B 0 (rg (k + 1))).nw, .slice va (RL B 0 (rg (k + 1))).L.length vj, .slice vb (RL B 0 (rg (k + 1))).ats.length vk, .slice vc (RL B 0 (rg (k + 1))).ft.length vm])] [.ms (.slice va (RL B 0 (rg (k + 1))).L.length vj) (RL B 0 (rg (k + 1))).L, .rw (.slice vb (RL B 0 (rg (k + 1))).ats.length vk) (RL B 0 (rg (k + 1))).ats.length 1 (icl (RL B 0 (rg (k + 1))).ats), .rw (.slice vc (RL B 0 (rg (k + 1))).ft.length vm) (RL B 0 (rg (k + 1))).ft.length 2 (fcl (RL B 0 (rg (k + 1))).ft), .bs (.slice (some ⟨bab, bao, none⟩) B.length bk) B] _) := Lib.hid ⟨hZ.bel, hZ.box, ⟨hZ.fc 2 rfl, ⟨hZ.fc 1 rfl, ⟨hZ.fc 0 rfl, ⟨hZ.fc 7 rfl, trivial⟩⟩⟩⟩⟩
      clear hZ
      go_wp2
      go_roundg (B.length - (k + 1))
      case rel => exact ⟨k + 1, rg (k + 1), va, vj, vb, vk, vc, vm, rfl, rfl, EZ, Lib.hid ⟨⟨by omega, rfl⟩, rfl⟩⟩
      case measure => exact by omega
    have t6 : decide ((k : Int) < (B.length : Int)) = false := decide_eq_false (by omega)
    have t7 : decide (k < B.length) = false := decide_eq_false (by omega)
    have hjs : js.length ≤ 60 ∧ ∀ j ∈ js, j < 60 := by rw [HJ.out]; exact range_j (by omega)
    have HJS := Lib.hid hjs
    have HJ0 : Hid (js = Lf B B.length 0 0) := Lib.hid (by rw [Lf_zero, HJ.out, hy]; rfl)
    clear hjs HJ hy a1 a2
    have b1 := EL.out.bx 0 rfl
    have c1_0 := b1.cell 0 rfl
    have c1_1 := b1.cell 1 rfl
    have c1_2 := b1.cell 2 rfl
    have c1_3 := b1.cell 3 rfl
    clear b1
    go_wp2_with fail
    refine (Go_rl g0 g9 HJS.out (EL.out.fc 0 rfl) (EL.out.fc 1 rfl) (EL.out.fc 2 rfl)).mono ?_
    rintro e w3 ⟨⟨pv, rfl, pa, pj, pb, pk, pc, pm, rfl, p1, p2, p3⟩, hb⟩
    have E4 : Hid (Env D w [(w2.heap.size, 64, [.int .i64 (RL B 0 js).nw, .slice na (RL B 0 js).L.length nj, .slice nb (RL B 0 js).ats.length nk, .slice nc (RL B 0 js).ft.length nm])] [.rw (.slice pc (RL B go1 js).ft.length pm) (RL B go1 js).ft.length 2 (fcl (RL B go1 js).ft), .rw (.slice pb (RL B go1 js).ats.length pk) (RL B go1 js).ats.length 1 (icl (RL B go1 js).ats), .ms (.slice pa (RL B go1 js).L.length pj) (RL B go1 js).L, .ms (.slice na (RL B 0 js).L.length nj) (RL B 0 js).L, .rw (.slice nb (RL B 0 js).ats.length nk) (RL B 0 js).ats.length 1 (icl (RL B 0 js).ats), .rw (.slice nc (RL B 0 js).ft.length nm) (RL B 0 js).ft.length 2 (fcl (RL B 0 js).ft), .bs (.slice ba B.length bk) B] w3) := Lib.hid (EL.out.got (EL.out.got (EL.out.got (EL.out.below hb) (.ms (.slice pa (RL B go1 js).L.length pj) (RL B go1 js).L) p1.out) (.rw (.slice pb (RL B go1 js).ats.length pk) (RL B go1 js).ats.length 1 (icl (RL B go1 js).ats)) p2.out) (.rw (.slice pc (RL B go1 js).ft.length pm) (RL B go1 js).ft.length 2 (fcl (RL B go1 js).ft)) p3.out)
    clear c1_0 c1_1 c1_2 c1_3 EL hb p1 p2 p3
    have b2 := E4.out.bx 0 rfl
    have c2_0 := b2.cell 0 rfl
    have c2_1 := b2.cell 1 rfl
    have c2_2 := b2.cell 2 rfl
    have c2_3 := b2.cell 3 rfl
    have f2_0 := b2.frozen 0
    have f2_1 := b2.frozen 1
    have f2_2 := b2.frozen 2
    have f2_3 := b2.frozen 3
    clear b2
    go_wp2_with fail
    have E5 : Hid (Env D w [(w2.heap.size, 64, [.int .i64 (RL B go1 js).nw, .slice pa (RL B go1 js).L.length pj, .slice pb (RL B go1 js).ats.length pk, .slice pc (RL B go1 js).ft.length pm])] [.rw (.slice pc (RL B go1 js).ft.length pm) (RL B go1 js).ft.length 2 (fcl (RL B go1 js).ft), .rw (.slice pb (RL B go1 js).ats.length pk) (RL B go1 js).ats.length 1 (icl (RL B go1 js).ats), .ms (.slice pa (RL B go1 js).L.length pj) (RL B go1 js).L, .ms (.slice na (RL B 0 js).L.length nj) (RL B 0 js).L, .rw (.slice nb (RL B 0 js).ats.length nk) (RL B 0 js).ats.length 1 (icl (RL B 0 js).ats), .rw (.slice nc (RL B 0 js).ft.length nm) (RL B 0 js).ft.length 2 (fcl (RL B 0 js).ft), .bs (.slice ba B.length bk) B] _) := Lib.hid (((((E4.out.set 0 0 (.int .i64 (RL B go1 js).nw) rfl).set 0 1 (.slice pa (RL B go1 js).L.length pj) rfl).set 0 2 (.slice pb (RL B go1 js).ats.length pk) rfl).set 0 3 (.slice pc (RL B go1 js).ft.length pm) rfl))
    go_loopg [63] (4) (fun gk s63 wr => ∃ (p : Nat) (js : List Nat) (na : Option Addr) (nj : Nat) (nb : Option Addr) (nk : Nat) (nc : Option Addr) (nm : Nat), s63 = .int .i64 (p : Int) ∧ Hid (Env D w [(w2.heap.size, 64, [.int .i64 (RL B go1 js).nw, .slice na (RL B go1 js).L.length nj, .slice nb (RL B go1 js).ats.length nk, .slice nc (RL B go1 js).ft.length nm])] [.ms (.slice na (RL B go1 js).L.length nj) (RL B go1 js).L, .rw (.slice nb (RL B go1 js).ats.length nk) (RL B go1 js).ats.length 1 (icl (RL B go1 js).ats), .rw (.slice nc (RL B go1 js).ft.length nm) (RL B go1 js).ft.length 2 (fcl (RL B go1 js).ft), .bs (.slice ba B.length bk) B] wr) ∧ Hid ((p ≤ 4 ∧ gk = 4 - p) ∧ js = Lf B B.length p 0))
    case atStart => exact ⟨0, js, pa, pj, pb, pk, pc, pm, rfl, Lib.hid ⟨E5.out.bel, E5.out.box, ⟨E5.out.fc 2 rfl, ⟨E5.out.fc 1 rfl, ⟨E5.out.fc 0 rfl, ⟨E5.out.fc 6 rfl, trivial⟩⟩⟩⟩⟩, Lib.hid ⟨⟨Nat.zero_le _, rfl⟩, HJ0.out⟩⟩
    case round =>
      clear c2_0 c2_1 c2_2 c2_3 f2_0 f2_1 f2_2 f2_3 E4 E5
      obtain ⟨p, js, na, nj, nb, nk, nc, nm, rfl, EL, HA⟩ := hrel
      obtain ⟨⟨a1, a2⟩, a3⟩ := HA.out
      have HP := Lib.hid a2
      have HJ := Lib.hid a3
      clear a3 a2 HA
      by_cases hy : p = 4
      rotate_left
      · have hp : p < 4 := by omega
        have t6 : decide ((p : Int) < 4) = true := decide_eq_true (by omega)
        clear hy a1
        go_wp2_with fail
        go_loopg [68] (B.length) (fun gk s68 wr => ∃ (i : Nat) (js : List Nat) (na : Option Addr) (nj : Nat) (nb : Option Addr) (nk : Nat) (nc : Option Addr) (nm : Nat), s68 = .int .i64 (i : Int) ∧ Hid (Env D w [(w2.heap.size, 64, [.int .i64 (RL B go1 js).nw, .slice na (RL B go1 js).L.length nj, .slice nb (RL B go1 js).ats.length nk, .slice nc (RL B go1 js).ft.length nm])] [.ms (.slice na (RL B go1 js).L.length nj) (RL B go1 js).L, .rw (.slice nb (RL B go1 js).ats.length nk) (RL B go1 js).ats.length 1 (icl (RL B go1 js).ats), .rw (.slice nc (RL B go1 js).ft.length nm) (RL B go1 js).ft.length 2 (fcl (RL B go1 js).ft), .bs (.slice ba B.length bk) B] wr) ∧ Hid ((i ≤ B.length ∧ gk = B.length - i) ∧ js = Lf B B.length p i))
        case atStart => exact ⟨0, js, na, nj, nb, nk, nc, nm, rfl, Lib.hid ⟨EL.out.bel, EL.out.box, ⟨EL.out.fc 0 rfl, ⟨EL.out.fc 1 rfl, ⟨EL.out.fc 2 rfl, ⟨EL.out.fc 3 rfl, trivial⟩⟩⟩⟩⟩, Lib.hid ⟨⟨Nat.zero_le _, rfl⟩, HJ.out⟩⟩
        case round =>
          clear EL
          obtain ⟨i, js, na, nj, nb, nk, nc, nm, rfl, EL, HA⟩ := hrel
          obtain ⟨⟨a1, a2⟩, a3⟩ := HA.out
          have HI := Lib.hid a3
          clear a3 HA
          by_cases hy : i = B.length
          rotate_left
          · have hi : i < B.length := by omega
            have t6 : decide ((i : Int) < (B.length : Int)) = true := decide_eq_true (by omega)
            have t7 : decide (i < B.length) = true := decide_eq_true hi
            clear hy
            obtain ⟨bab, bao, rfl⟩ := Bs.addr (EL.out.fc 3 rfl) hi
            have hbp := bpt_rem (EL.out.fc 3 rfl) hi
            have E6 : Hid (Env D w [(w2.heap.size, 64, [.int .i64 (RL B go1 js).nw, .slice na (RL B go1 js).L.length nj, .slice nb (RL B go1 js).ats.length nk, .slice nc (RL B go1 js).ft.length nm])] [.ce bab (bao + i) (.int .u8 (B[i] : Nat)), .ms (.slice na (RL B go1 js).L.length nj) (RL B go1 js).L, .rw (.slice nb (RL B go1 js).ats.length nk) (RL B go1 js).ats.length 1 (icl (RL B go1 js).ats), .rw (.slice nc (RL B go1 js).ft.length nm) (RL B go1 js).ft.length 2 (fcl (RL B go1 js).ft), .bs (.slice (some ⟨bab, bao, none⟩) B.length bk) B] _) := Lib.hid (EL.out.elB 3 rfl i hi)
            clear EL
            have u0 := (E6.out.fc 0 rfl).2
            by_cases hq : bpt B i = p
            rotate_left
            · have e1 : ((bpt B i : Int) != (p : Int)) = true := by simp; omega
              have HQ := Lib.hid (Lf_skip B.length hq)
              clear hq
              have hZ := E6.out
              have EZ : Hid (Env D w [(w2.heap.size, 64, [.int .i64 (RL B go1 js).nw, .slice na (RL B go1 js).L.length nj, .slice nb (RL B go1 js).ats.length nk, .slice nc (RL B go1 js).ft.length nm])] [.ms (.slice na (RL B go1 js).L.length nj) (RL B go1 js).L, .rw (.slice nb (RL B go1 js).ats.length nk) (RL B go1 js).ats.length 1 (icl (RL B go1 js).ats), .rw (.slice nc (RL B go1 js).ft.length nm) (RL B go1 js).ft.length 2 (fcl (RL B go1 js).ft), .bs (.slice (some ⟨bab, bao, none⟩) B.length bk) B] _) := Lib.hid ⟨hZ.bel, hZ.box, ⟨hZ.fc 1 rfl, ⟨hZ.fc 2 rfl, ⟨hZ.fc 3 rfl, ⟨hZ.fc 4 rfl, trivial⟩⟩⟩⟩⟩
              clear hZ
              go_wp2
              go_roundg (B.length - (i + 1))
              case rel => exact ⟨i + 1, js, na, nj, nb, nk, nc, nm, rfl, EZ, Lib.hid ⟨⟨by omega, rfl⟩, by rw [HQ.out]; exact HI.out⟩⟩
              case measure => exact by omega
            have e1 : ((bpt B i : Int) != (p : Int)) = false := by simp; omega
            have e3 : ((toM B i).nm != (i : Int)) = false := by simp [toM]
            have e4 : ((toM B i).to_ != (p : Int)) = false := by simp [toM]; omega
            have HQ := Lib.hid hq
            clear hq
            have b3 := E6.out.bx 0 rfl
            have c3_0 := b3.cell 0 rfl
            have c3_1 := b3.cell 1 rfl
            have c3_2 := b3.cell 2 rfl
            have c3_3 := b3.cell 3 rfl
            clear b3
            go_wp2_with fail
            refine (Receive_rl (B := B) g0 g9 hl hi HQ.out HI.out (E6.out.fc 1 rfl) (E6.out.fc 2 rfl) (E6.out.fc 3 rfl)).mono ?_
            rintro e w4 ⟨⟨vv, vo, vq, rfl, ⟨va, vj, vb, vk, vc, vm, rfl, v1, v2, v3⟩, v4⟩, hb⟩
            have E7 : Hid (Env D w [(w2.heap.size, 64, [.int .i64 (RL B go1 js).nw, .slice na (RL B go1 js).L.length nj, .slice nb (RL B go1 js).ats.length nk, .slice nc (RL B go1 js).ft.length nm])] [.bs (.slice vo ((toM B i)).body.length vq) ((toM B i)).body, .rw (.slice vc (RL B go1 (Lf B B.length p (i + 1))).ft.length vm) (RL B go1 (Lf B B.length p (i + 1))).ft.length 2 (fcl (RL B go1 (Lf B B.length p (i + 1))).ft), .rw (.slice vb (RL B go1 (Lf B B.length p (i + 1))).ats.length vk) (RL B go1 (Lf B B.length p (i + 1))).ats.length 1 (icl (RL B go1 (Lf B B.length p (i + 1))).ats), .ms (.slice va (RL B go1 (Lf B B.length p (i + 1))).L.length vj) (RL B go1 (Lf B B.length p (i + 1))).L, .ce bab (bao + i) (.int .u8 (B[i] : Nat)), .ms (.slice na (RL B go1 js).L.length nj) (RL B go1 js).L, .rw (.slice nb (RL B go1 js).ats.length nk) (RL B go1 js).ats.length 1 (icl (RL B go1 js).ats), .rw (.slice nc (RL B go1 js).ft.length nm) (RL B go1 js).ft.length 2 (fcl (RL B go1 js).ft), .bs (.slice (some ⟨bab, bao, none⟩) B.length bk) B] w4) := Lib.hid (E6.out.got (E6.out.got (E6.out.got (E6.out.got (E6.out.below hb) (.ms (.slice va (RL B go1 (Lf B B.length p (i + 1))).L.length vj) (RL B go1 (Lf B B.length p (i + 1))).L) v1.out) (.rw (.slice vb (RL B go1 (Lf B B.length p (i + 1))).ats.length vk) (RL B go1 (Lf B B.length p (i + 1))).ats.length 1 (icl (RL B go1 (Lf B B.length p (i + 1))).ats)) v2.out) (.rw (.slice vc (RL B go1 (Lf B B.length p (i + 1))).ft.length vm) (RL B go1 (Lf B B.length p (i + 1))).ft.length 2 (fcl (RL B go1 (Lf B B.length p (i + 1))).ft)) v3.out) (.bs (.slice vo ((toM B i)).body.length vq) ((toM B i)).body) v4.out)
            clear u0 c3_0 c3_1 c3_2 c3_3 E6 hb v1 v2 v3 v4
            have E8 : Hid (Env D w [(w4.heap.size + 1, 24, [.int .i64 (toM B i).fr, .int .i64 (toM B i).to_, .int .i64 (toM B i).kd, .int .i64 (toM B i).nm, .slice vo ((toM B i)).body.length vq]), (w4.heap.size, 64, [.int .i64 (RL B go1 (Lf B B.length p (i + 1))).nw, .slice va (RL B go1 (Lf B B.length p (i + 1))).L.length vj, .slice vb (RL B go1 (Lf B B.length p (i + 1))).ats.length vk, .slice vc (RL B go1 (Lf B B.length p (i + 1))).ft.length vm]), (w2.heap.size, 64, [.int .i64 (RL B go1 js).nw, .slice na (RL B go1 js).L.length nj, .slice nb (RL B go1 js).ats.length nk, .slice nc (RL B go1 js).ft.length nm])] [.bs (.slice vo ((toM B i)).body.length vq) ((toM B i)).body, .rw (.slice vc (RL B go1 (Lf B B.length p (i + 1))).ft.length vm) (RL B go1 (Lf B B.length p (i + 1))).ft.length 2 (fcl (RL B go1 (Lf B B.length p (i + 1))).ft), .rw (.slice vb (RL B go1 (Lf B B.length p (i + 1))).ats.length vk) (RL B go1 (Lf B B.length p (i + 1))).ats.length 1 (icl (RL B go1 (Lf B B.length p (i + 1))).ats), .ms (.slice va (RL B go1 (Lf B B.length p (i + 1))).L.length vj) (RL B go1 (Lf B B.length p (i + 1))).L, .ce bab (bao + i) (.int .u8 (B[i] : Nat)), .ms (.slice na (RL B go1 js).L.length nj) (RL B go1 js).L, .rw (.slice nb (RL B go1 js).ats.length nk) (RL B go1 js).ats.length 1 (icl (RL B go1 js).ats), .rw (.slice nc (RL B go1 js).ft.length nm) (RL B go1 js).ft.length 2 (fcl (RL B go1 js).ft), .bs (.slice (some ⟨bab, bao, none⟩) B.length bk) B] _) := Lib.hid (((E7.out.push 64 [.int .i64 (RL B go1 (Lf B B.length p (i + 1))).nw, .slice va (RL B go1 (Lf B B.length p (i + 1))).L.length vj, .slice vb (RL B go1 (Lf B B.length p (i + 1))).ats.length vk, .slice vc (RL B go1 (Lf B B.length p (i + 1))).ft.length vm] (w4.heap.size) (by simp)).push 24 [.int .i64 (toM B i).fr, .int .i64 (toM B i).to_, .int .i64 (toM B i).kd, .int .i64 (toM B i).nm, .slice vo ((toM B i)).body.length vq] (w4.heap.size + 1) (by simp)))
            have b4 := E8.out.bx 2 rfl
            have c4_0 := b4.cell 0 rfl
            have c4_1 := b4.cell 1 rfl
            have c4_2 := b4.cell 2 rfl
            have c4_3 := b4.cell 3 rfl
            have f4_0 := b4.frozen 0
            have f4_1 := b4.frozen 1
            have f4_2 := b4.frozen 2
            have f4_3 := b4.frozen 3
            clear b4
            have E9 : Hid (Env D w [(w4.heap.size + 1, 24, [.int .i64 (toM B i).fr, .int .i64 (toM B i).to_, .int .i64 (toM B i).kd, .int .i64 (toM B i).nm, .slice vo ((toM B i)).body.length vq]), (w4.heap.size, 64, [.int .i64 (RL B go1 (Lf B B.length p (i + 1))).nw, .slice va (RL B go1 (Lf B B.length p (i + 1))).L.length vj, .slice vb (RL B go1 (Lf B B.length p (i + 1))).ats.length vk, .slice vc (RL B go1 (Lf B B.length p (i + 1))).ft.length vm]), (w2.heap.size, 64, [.int .i64 (RL B go1 (Lf B B.length p (i + 1))).nw, .slice va (RL B go1 (Lf B B.length p (i + 1))).L.length vj, .slice vb (RL B go1 (Lf B B.length p (i + 1))).ats.length vk, .slice vc (RL B go1 (Lf B B.length p (i + 1))).ft.length vm])] [.bs (.slice vo ((toM B i)).body.length vq) ((toM B i)).body, .rw (.slice vc (RL B go1 (Lf B B.length p (i + 1))).ft.length vm) (RL B go1 (Lf B B.length p (i + 1))).ft.length 2 (fcl (RL B go1 (Lf B B.length p (i + 1))).ft), .rw (.slice vb (RL B go1 (Lf B B.length p (i + 1))).ats.length vk) (RL B go1 (Lf B B.length p (i + 1))).ats.length 1 (icl (RL B go1 (Lf B B.length p (i + 1))).ats), .ms (.slice va (RL B go1 (Lf B B.length p (i + 1))).L.length vj) (RL B go1 (Lf B B.length p (i + 1))).L, .ce bab (bao + i) (.int .u8 (B[i] : Nat)), .ms (.slice na (RL B go1 js).L.length nj) (RL B go1 js).L, .rw (.slice nb (RL B go1 js).ats.length nk) (RL B go1 js).ats.length 1 (icl (RL B go1 js).ats), .rw (.slice nc (RL B go1 js).ft.length nm) (RL B go1 js).ft.length 2 (fcl (RL B go1 js).ft), .bs (.slice (some ⟨bab, bao, none⟩) B.length bk) B] _) := Lib.hid (((((E8.out.set 2 0 (.int .i64 (RL B go1 (Lf B B.length p (i + 1))).nw) rfl).set 2 1 (.slice va (RL B go1 (Lf B B.length p (i + 1))).L.length vj) rfl).set 2 2 (.slice vb (RL B go1 (Lf B B.length p (i + 1))).ats.length vk) rfl).set 2 3 (.slice vc (RL B go1 (Lf B B.length p (i + 1))).ft.length vm) rfl))
            have hZ := ((E9.out.drop).drop)
            have EZ : Hid (Env D w [(w2.heap.size, 64, [.int .i64 (RL B go1 (Lf B B.length p (i + 1))).nw, .slice va (RL B go1 (Lf B B.length p (i + 1))).L.length vj, .slice vb (RL B go1 (Lf B B.length p (i + 1))).ats.length vk, .slice vc (RL B go1 (Lf B B.length p (i + 1))).ft.length vm])] [.ms (.slice va (RL B go1 (Lf B B.length p (i + 1))).L.length vj) (RL B go1 (Lf B B.length p (i + 1))).L, .rw (.slice vb (RL B go1 (Lf B B.length p (i + 1))).ats.length vk) (RL B go1 (Lf B B.length p (i + 1))).ats.length 1 (icl (RL B go1 (Lf B B.length p (i + 1))).ats), .rw (.slice vc (RL B go1 (Lf B B.length p (i + 1))).ft.length vm) (RL B go1 (Lf B B.length p (i + 1))).ft.length 2 (fcl (RL B go1 (Lf B B.length p (i + 1))).ft), .bs (.slice (some ⟨bab, bao, none⟩) B.length bk) B] _) := Lib.hid ⟨hZ.bel, hZ.box, ⟨hZ.fc 3 rfl, ⟨hZ.fc 2 rfl, ⟨hZ.fc 1 rfl, ⟨hZ.fc 8 rfl, trivial⟩⟩⟩⟩⟩
            clear hZ
            go_wp2
            go_roundg (B.length - (i + 1))
            case rel => exact ⟨i + 1, Lf B B.length p (i + 1), va, vj, vb, vk, vc, vm, rfl, EZ, Lib.hid ⟨⟨by omega, rfl⟩, rfl⟩⟩
            case measure => exact by omega
          have t6 : decide ((i : Int) < (B.length : Int)) = false := decide_eq_false (by omega)
          have t7 : decide (i < B.length) = false := decide_eq_false (by omega)
          have HN : Hid (js = Lf B B.length p B.length) := Lib.hid (by rw [HI.out, hy])
          clear hy HI a1 a2
          have b3 := EL.out.bx 0 rfl
          have c3_0 := b3.cell 0 rfl
          have c3_1 := b3.cell 1 rfl
          have c3_2 := b3.cell 2 rfl
          have c3_3 := b3.cell 3 rfl
          clear b3
          go_wp2_with fail
          refine (Receive_rn (B := B) g0 g9 hl HN.out (EL.out.fc 0 rfl) (EL.out.fc 1 rfl) (EL.out.fc 2 rfl)).mono ?_
          rintro e w4 ⟨⟨zv, zo, zq, rfl, ⟨za, zj, zb, zk, zc, zm, rfl, z1, z2, z3⟩, z4⟩, hb⟩
          have E6 : Hid (Env D w [(w2.heap.size, 64, [.int .i64 (RL B go1 js).nw, .slice na (RL B go1 js).L.length nj, .slice nb (RL B go1 js).ats.length nk, .slice nc (RL B go1 js).ft.length nm])] [.bs (.slice zo (M0).body.length zq) (M0).body, .rw (.slice zc (L0).ft.length zm) (L0).ft.length 2 (fcl (L0).ft), .rw (.slice zb (L0).ats.length zk) (L0).ats.length 1 (icl (L0).ats), .ms (.slice za (L0).L.length zj) (L0).L, .ms (.slice na (RL B go1 js).L.length nj) (RL B go1 js).L, .rw (.slice nb (RL B go1 js).ats.length nk) (RL B go1 js).ats.length 1 (icl (RL B go1 js).ats), .rw (.slice nc (RL B go1 js).ft.length nm) (RL B go1 js).ft.length 2 (fcl (RL B go1 js).ft), .bs (.slice ba B.length bk) B] w4) := Lib.hid (EL.out.got (EL.out.got (EL.out.got (EL.out.got (EL.out.below hb) (.ms (.slice za (L0).L.length zj) (L0).L) z1.out) (.rw (.slice zb (L0).ats.length zk) (L0).ats.length 1 (icl (L0).ats)) z2.out) (.rw (.slice zc (L0).ft.length zm) (L0).ft.length 2 (fcl (L0).ft)) z3.out) (.bs (.slice zo (M0).body.length zq) (M0).body) z4.out)
          clear c3_0 c3_1 c3_2 c3_3 EL hb z1 z2 z3 z4
          have E7 : Hid (Env D w [(w4.heap.size + 1, 24, [.int .i64 M0.fr, .int .i64 M0.to_, .int .i64 M0.kd, .int .i64 M0.nm, .slice zo (M0).body.length zq]), (w4.heap.size, 64, [.int .i64 (L0).nw, .slice za (L0).L.length zj, .slice zb (L0).ats.length zk, .slice zc (L0).ft.length zm]), (w2.heap.size, 64, [.int .i64 (RL B go1 js).nw, .slice na (RL B go1 js).L.length nj, .slice nb (RL B go1 js).ats.length nk, .slice nc (RL B go1 js).ft.length nm])] [.bs (.slice zo (M0).body.length zq) (M0).body, .rw (.slice zc (L0).ft.length zm) (L0).ft.length 2 (fcl (L0).ft), .rw (.slice zb (L0).ats.length zk) (L0).ats.length 1 (icl (L0).ats), .ms (.slice za (L0).L.length zj) (L0).L, .ms (.slice na (RL B go1 js).L.length nj) (RL B go1 js).L, .rw (.slice nb (RL B go1 js).ats.length nk) (RL B go1 js).ats.length 1 (icl (RL B go1 js).ats), .rw (.slice nc (RL B go1 js).ft.length nm) (RL B go1 js).ft.length 2 (fcl (RL B go1 js).ft), .bs (.slice ba B.length bk) B] _) := Lib.hid (((E6.out.push 64 [.int .i64 (L0).nw, .slice za (L0).L.length zj, .slice zb (L0).ats.length zk, .slice zc (L0).ft.length zm] (w4.heap.size) (by simp)).push 24 [.int .i64 M0.fr, .int .i64 M0.to_, .int .i64 M0.kd, .int .i64 M0.nm, .slice zo (M0).body.length zq] (w4.heap.size + 1) (by simp)))
          have b4 := E7.out.bx 2 rfl
          have c4_0 := b4.cell 0 rfl
          have c4_1 := b4.cell 1 rfl
          have c4_2 := b4.cell 2 rfl
          have c4_3 := b4.cell 3 rfl
          clear b4
          go_wp2_with fail
          refine (Waiting_rn (B := B) g0 g9 hl HN.out (E7.out.fc 4 rfl) (E7.out.fc 5 rfl) (E7.out.fc 6 rfl)).mono ?_
          rintro e w5 ⟨rfl, hb⟩
          have E8 : Hid (Env D w [(w4.heap.size + 1, 24, [.int .i64 M0.fr, .int .i64 M0.to_, .int .i64 M0.kd, .int .i64 M0.nm, .slice zo (M0).body.length zq]), (w4.heap.size, 64, [.int .i64 (L0).nw, .slice za (L0).L.length zj, .slice zb (L0).ats.length zk, .slice zc (L0).ft.length zm]), (w2.heap.size, 64, [.int .i64 (RL B go1 js).nw, .slice na (RL B go1 js).L.length nj, .slice nb (RL B go1 js).ats.length nk, .slice nc (RL B go1 js).ft.length nm])] [.bs (.slice zo (M0).body.length zq) (M0).body, .rw (.slice zc (L0).ft.length zm) (L0).ft.length 2 (fcl (L0).ft), .rw (.slice zb (L0).ats.length zk) (L0).ats.length 1 (icl (L0).ats), .ms (.slice za (L0).L.length zj) (L0).L, .ms (.slice na (RL B go1 js).L.length nj) (RL B go1 js).L, .rw (.slice nb (RL B go1 js).ats.length nk) (RL B go1 js).ats.length 1 (icl (RL B go1 js).ats), .rw (.slice nc (RL B go1 js).ft.length nm) (RL B go1 js).ft.length 2 (fcl (RL B go1 js).ft), .bs (.slice ba B.length bk) B] w5) := Lib.hid (E7.out.below hb)
          clear c4_0 c4_1 c4_2 c4_3 E6 E7 hb
          have a2 := HP.out
          have hZ := ((E8.out.drop).drop)
          have EZ : Hid (Env D w [(w2.heap.size, 64, [.int .i64 (RL B go1 js).nw, .slice na (RL B go1 js).L.length nj, .slice nb (RL B go1 js).ats.length nk, .slice nc (RL B go1 js).ft.length nm])] [.ms (.slice na (RL B go1 js).L.length nj) (RL B go1 js).L, .rw (.slice nb (RL B go1 js).ats.length nk) (RL B go1 js).ats.length 1 (icl (RL B go1 js).ats), .rw (.slice nc (RL B go1 js).ft.length nm) (RL B go1 js).ft.length 2 (fcl (RL B go1 js).ft), .bs (.slice ba B.length bk) B] _) := Lib.hid ⟨hZ.bel, hZ.box, ⟨hZ.fc 4 rfl, ⟨hZ.fc 5 rfl, ⟨hZ.fc 6 rfl, ⟨hZ.fc 7 rfl, trivial⟩⟩⟩⟩⟩
          clear hZ
          go_wp2
          go_roundg (4 - (p + 1))
          case rel => exact ⟨p + 1, js, na, nj, nb, nk, nc, nm, rfl, EZ, Lib.hid ⟨⟨by omega, rfl⟩, by rw [← Lf_next]; exact HN.out⟩⟩
          case measure => exact by omega
      have t6 : decide ((p : Int) < 4) = false := decide_eq_false (by omega)
      obtain rfl : js = [] := by rw [HJ.out, hy]; exact Lf_end _ _
      have hjs : ([] : List Nat).length ≤ 60 ∧ ∀ j ∈ ([] : List Nat), j < 60 := ⟨Nat.zero_le _, by simp⟩
      clear HJ hy a1 HP
      have b3 := EL.out.bx 0 rfl
      have c3_0 := b3.cell 0 rfl
      have c3_1 := b3.cell 1 rfl
      have c3_2 := b3.cell 2 rfl
      have c3_3 := b3.cell 3 rfl
      clear b3
      go_wp2_with fail
      refine (Next_rl (B := B) g0 g9 hjs (EL.out.fc 0 rfl) (EL.out.fc 1 rfl) (EL.out.fc 2 rfl)).mono ?_
      rintro e w4 ⟨rfl, hb⟩
      have E6 : Hid (Env D w [(w2.heap.size, 64, [.int .i64 (RL B go1 []).nw, .slice na (RL B go1 []).L.length nj, .slice nb (RL B go1 []).ats.length nk, .slice nc (RL B go1 []).ft.length nm])] [.ms (.slice na (RL B go1 []).L.length nj) (RL B go1 []).L, .rw (.slice nb (RL B go1 []).ats.length nk) (RL B go1 []).ats.length 1 (icl (RL B go1 []).ats), .rw (.slice nc (RL B go1 []).ft.length nm) (RL B go1 []).ft.length 2 (fcl (RL B go1 []).ft), .bs (.slice ba B.length bk) B] w4) := Lib.hid (EL.out.below hb)
      clear c3_0 c3_1 c3_2 c3_3 EL hb
      have b4 := E6.out.bx 0 rfl
      have c4_1 := b4.cell 1 rfl
      clear b4
      have hfin := Lib.hid E6.out.bel
      go_wp2
      go_ret
      exact ⟨rfl, hfin.out⟩
theorem LineReliable_walk (B : List Nat) (go1 : Int) {ba : Option Addr} {bk : Nat} {D : Nat → Prop} {w : World} (hb : Fct.at w D (.bs (.slice ba B.length bk) B)) (hw : (Lit.int IntKind.u16 go1).wf = true) :
    Calls Try.prog 8 #[.slice ba B.length bk, .int .u16 go1] w fun e w' => e = .returned (.bool true) ∧ Below w.heap.size w w' := by
  by_cases h : 60 < B.length
  · exact rel_skip B go1 hb h
  · refine rel_main B go1 hb (by omega) ?_
    simp [Lit.wf, IntKind.min, IntKind.max, IntKind.signed, IntKind.bits] at hw
    omega
end Go.Proofs.Ytbcfcdcomboljaa

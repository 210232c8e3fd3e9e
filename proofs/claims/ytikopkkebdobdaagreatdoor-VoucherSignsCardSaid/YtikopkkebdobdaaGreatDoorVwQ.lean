/- Picked declarations of VsQ, VsR, VsS, VsT, VsU, VsV. -/
import Derived.Test.YtikopkkebdobdaaGreatDoorVwU
import Derived.Test.YtikopkkebdobdaaGreatDoorVwH
import Derived.Lib.EndianBits
import Derived.Test.YtikopkkebdobdaaGreatDoorVw0
import Derived.Test.YtikopkkebdobdaaGreatDoorVwI
namespace Go.Proofs.YtikopkkebdobdaaGreatDoor
set_option maxRecDepth 100000
set_option maxHeartbeats 8000000
open Nn.NatMath (len digs)
open Nn (Sl vld ResN ResZ)
set_option linter.unusedVariables false
set_option linter.unusedSimpArgs false
open Go.RowKit
theorem tiW : TI 22 74 1 := .ofInfo (b := 4) (z := .int .u32 0) Tryz.underlying22 (by kernel_rfl) rfl (by omega) (by omega)
/-- words of the call's own -/
def OW (sg : List Bx) (cs : List Value) (v : Value) (l : List Int) : Prop := OS 74 1 sg cs v l.length ∧ cs.take l.length = l.map wv
theorem OW.nil : OW [] [] (.slice none 0 0) [] := ⟨.inl ⟨rfl, rfl, rfl, rfl⟩, rfl⟩
section
variable {D0 : Nat → Prop} {w W : World} {A sg : List Bx} {G : List Fct} {cs : List Value} {v : Value} {l news : List Int}
theorem app_runW (ty : TypeId) (E : Env D0 w (A ++ sg) G W) (hO : OW sg cs v l) {ad : Option Addr} {m c : Nat} (hsrc : SrcN 1 W ad m (news.map wv)) (hb : l.length + m ≤ 1000000) :
  ∃ va vc W', (Builtin.append_ #[22, 22] ty #[v, .slice ad m c]).run Tryz.prog W = .ok (.slice va (l.length + m) vc) W' ∧ ∃ sg' cs' l', Hid (l' = l ++ news) ∧ l.length + m = l'.length ∧ Hid (OW sg' cs' (.slice va l'.length vc) l') ∧ Hid (Env D0 w (A ++ sg') G W') := by
 obtain ⟨v', W', hr, sg', cs', h1, h2, h3, _⟩ := app_run (A := A) (B' := []) tiW ty E (by simp) hO.1 (c := c) hsrc hb
 have hm : m = news.length := by have := hsrc.1; rw [List.length_map] at this; omega
 subst hm
 obtain ⟨va, vc, rfl⟩ := h1.len
 refine ⟨va, vc, W', hr, sg', cs', l ++ news, Zh rfl, by simp, Zh ⟨by simpa using h1, ?_⟩, Zh (h3.cast (by simp))⟩
 rw [Nat.mul_one, Nat.mul_one, hO.2, ← List.map_append] at h2
 rw [List.length_append]; exact h2
theorem wpl_appW {ops : Array Oper} {rest : List Oper} {o : Oper} {a : Act} {Q : Exit → Act → World → Prop} (hgd : o.guard = none) (s x : Operand)
  (ho : o.op = .call { callee := .builtin .append, args := #[s, x], argTypes := #[22, 22] })
  (E : Env D0 w (A ++ sg) G W) (hO : OW sg cs v l) (hs : a.eval s = v) {ad : Option Addr} {m c : Nat} (hx : a.eval x = .slice ad m c) (hsrc : SrcN 1 W ad m (news.map wv)) (hb : l.length + m ≤ 1000000)
  (h : ∀ (sg' : List Bx) (cs' : List Value) (l' : List Int) (va : Option Addr) (vc : Nat) (W' : World), Hid (l' = l ++ news) → Hid (OW sg' cs' (.slice va l'.length vc) l') → Hid (Env D0 w (A ++ sg') G W') → wpList Tryz.prog ops Q rest (a.put o.dst (.slice va l'.length vc)) W') :
  wpList Tryz.prog ops Q (o :: rest) a W := by
 refine wpList_plain hgd fun K hK => ?_
 obtain ⟨va, vc, W', hr, sg', cs', l', h1, h2, h3, h4⟩ := app_runW o.type E hO (c := c) hsrc hb
 unfold Oper.wp execOp
 simp only [ho, resolve, invoke, builtin, Sem.run_bind, Sem.run_pure, Result.andThen_ok, List.map_toArray, List.map_cons, List.map_nil, hs, hx, hr]
 rw [h2]
 exact hK _ _ (h sg' cs' l' va vc W' h1 h3 h4)
theorem op_appW {o : Oper} {a : Act} {K : Act → World → Prop} {Q : Exit → Act → World → Prop} {EE : Prop} {ops : Array Oper} (d : Option Tmp) (hgd : o.guard = none) (hd : o.dst = d) (s x : Operand)
  (ho : o.op = .call { callee := .builtin .append, args := #[s, x], argTypes := #[22, 22] })
  (E : Env D0 w (A ++ sg) G W) (hO : OW sg cs v l) (hs : a.eval s = v) {ad : Option Addr} {m c : Nat} (hx : a.eval x = .slice ad m c) (hsrc : SrcN 1 W ad m (news.map wv)) (hb : l.length + m ≤ 1000000)
  (h : ∀ (sg' : List Bx) (cs' : List Value) (l' : List Int) (va : Option Addr) (vc : Nat) (W' : World), Hid (l' = l ++ news) → Hid (OW sg' cs' (.slice va l'.length vc) l') → Hid (Env D0 w (A ++ sg') G W') → K (a.put d (.slice va l'.length vc)) W') :
  if Region.wanted o (yielded ops a.tmps) = true then Oper.wp Tryz.prog o a W K Q else EE := by
 have hw : Region.wanted o (yielded ops a.tmps) = true := by simp [Region.wanted, hgd]
 rw [if_pos hw]
 subst hd
 obtain ⟨va, vc, W', hr, sg', cs', l', h1, h2, h3, h4⟩ := app_runW o.type E hO (c := c) hsrc hb
 unfold Oper.wp execOp
 simp only [ho, resolve, invoke, builtin, Sem.run_bind, Sem.run_pure, Result.andThen_ok, List.map_toArray, List.map_cons, List.map_nil, hs, hx, hr]
 rw [h2]
 exact h sg' cs' l' va vc W' h1 h3 h4
theorem SrcN.words {B g : Nat} {T : TypeId} {n : Nat} (h : Box B g T (l.map wv) W) (hn : n = l.length) : SrcN 1 W (some ⟨g, 0, none⟩) n (l.map wv) := SrcN.box h (by rw [List.length_map]; omega) (wvs_one l)
end
theorem rcon_c {w : World} : Calls Tryz.prog 115 #[] w fun e w' => (e = .returned (.slice (some ⟨w.heap.size, 0, none⟩) 64 64) ∧ Box w.heap.size w.heap.size 74 (Kc.map wv) w') ∧ Below w.heap.size w w' := by
 have E0 := Zh (Env.start (fun _ => True) w)
 go_enter Tryz.func115, Tryz.ntmps115
 have E1 := Zh (E0.out.push 74 (Kc.map wv) w.heap.size rfl)
 clear E0
 have hfin := Zh E1.out.bel
 have hbx := Zh (E1.out.bx 0 rfl)
 clear E1
 go_wp2
 go_ret
 exact ⟨⟨rfl, hbx.out⟩, hfin.out⟩
theorem cntN_len (n : Nat) : (cntN n).length = 8 := by simp [cntN]
theorem cntN_take (n : Nat) (j : Nat) (h : j < 8) : (cntN n).take (j + 1) = (cntN n).take j ++ [n / 2 ^ (56 - 8 * j) % 256] := by
 rw [List.take_succ_eq_append_getElem (by simp [cntN]; omega)]; simp [cntN]
theorem rbytes_c (n : Nat) (hn0 : n ≤ 1000000000) {w : World} : Calls Tryz.prog 89 #[.int .i64 (n : Int)] w fun e w' => (∃ sg cs va vc, e = .returned (.slice va 8 vc) ∧ Hid (OB sg cs (.slice va 8 vc) (cntN n)) ∧ Hid (HeldF w.heap.size sg w')) ∧ Below w.heap.size w w' := by
 have E0 := Zh (Env.start (fun _ => True) w)
 have hn := Zh hn0
 clear hn0
 go_enter Tryz.func89, Tryz.ntmps89
 go_wp2_with fail
 go_loopg [3, 4] (8) (fun gk z3 z4 wr => ∃ (sg : List Bx) (cs : List Value) (p : List Nat) (va : Option Addr) (vc j : Nat) (i : Int), z3 = .slice va p.length vc ∧ z4 = .int .i64 i ∧ Hid (Env (fun _ => True) w ([] ++ sg) [] wr) ∧ Hid (OB sg cs (.slice va p.length vc) p) ∧ Hid ((j ≤ 8 ∧ p = (cntN n).take j ∧ i = 7 - (j : Int)) ∧ gk = 8 - j))
 case atStart => exact ⟨[], [], [], none, 0, 0, 7, rfl, rfl, E0, Zh OB.nil, Zh ⟨⟨Nat.zero_le _, rfl, rfl⟩, rfl⟩⟩
 case round =>
  clear E0
  obtain ⟨sg, cs, p, va, vc, j, i, rfl, rfl, EL, hO, HA⟩ := hrel
  by_cases hy : j = 8
  rotate_left
  ·have hL : p.length ≤ 8 := by rw [HA.out.1.2.1, List.length_take, cntN_len]; omega
   have HL := Zh hL
   clear hL
   have hj := HA.out.1
   rcases (by omega : j = 0 ∨ j = 1 ∨ j = 2 ∨ j = 3 ∨ j = 4 ∨ j = 5 ∨ j = 6 ∨ j = 7) with rfl | rfl | rfl | rfl | rfl | rfl | rfl | rfl
   ·obtain rfl : i = 7 := by have := hj.2.2; omega
    clear hj hy
    have E2 := Zh (EL.out.push 5 [.int .u8 (((n / 72057594037927936 % 256 : Nat)) : Int)] wr.heap.size rfl)
    clear EL
    go_wp2_with (at_builtin; refine wpl_appB (news := [n / 72057594037927936 % 256]) (A := [(wr.heap.size, 5, [.int .u8 (((n / 72057594037927936 % 256 : Nat)) : Int)])]) rfl _ _ rfl E2.out hO.out rfl rfl (SrcN.bytes (E2.out.bx 0 rfl)) (B8.one (by omega)) (by have := HL.out; omega) ?_)
    intro sg1 cs1 p1 v1 c1 w2 hp1 hO1 E3
    go_wp2
    go_roundg (8 - (0 + 1))
    case rel => exact ⟨sg1, cs1, p1, v1, c1, 1, 6, rfl, rfl, Zh E3.out.drop, hO1, Zh ⟨⟨by omega, by rw [hp1.out, HA.out.1.2.1, cntN_take n 0 (by omega)], by omega⟩, rfl⟩⟩
    case measure => exact by have := HA.out; omega
   ·obtain rfl : i = 6 := by have := hj.2.2; omega
    clear hj hy
    have E2 := Zh (EL.out.push 5 [.int .u8 (((n / 281474976710656 % 256 : Nat)) : Int)] wr.heap.size rfl)
    clear EL
    go_wp2_with (at_builtin; refine wpl_appB (news := [n / 281474976710656 % 256]) (A := [(wr.heap.size, 5, [.int .u8 (((n / 281474976710656 % 256 : Nat)) : Int)])]) rfl _ _ rfl E2.out hO.out rfl rfl (SrcN.bytes (E2.out.bx 0 rfl)) (B8.one (by omega)) (by have := HL.out; omega) ?_)
    intro sg1 cs1 p1 v1 c1 w2 hp1 hO1 E3
    go_wp2
    go_roundg (8 - (1 + 1))
    case rel => exact ⟨sg1, cs1, p1, v1, c1, 2, 5, rfl, rfl, Zh E3.out.drop, hO1, Zh ⟨⟨by omega, by rw [hp1.out, HA.out.1.2.1, cntN_take n 1 (by omega)], by omega⟩, rfl⟩⟩
    case measure => exact by have := HA.out; omega
   ·obtain rfl : i = 5 := by have := hj.2.2; omega
    clear hj hy
    have E2 := Zh (EL.out.push 5 [.int .u8 (((n / 1099511627776 % 256 : Nat)) : Int)] wr.heap.size rfl)
    clear EL
    go_wp2_with (at_builtin; refine wpl_appB (news := [n / 1099511627776 % 256]) (A := [(wr.heap.size, 5, [.int .u8 (((n / 1099511627776 % 256 : Nat)) : Int)])]) rfl _ _ rfl E2.out hO.out rfl rfl (SrcN.bytes (E2.out.bx 0 rfl)) (B8.one (by omega)) (by have := HL.out; omega) ?_)
    intro sg1 cs1 p1 v1 c1 w2 hp1 hO1 E3
    go_wp2
    go_roundg (8 - (2 + 1))
    case rel => exact ⟨sg1, cs1, p1, v1, c1, 3, 4, rfl, rfl, Zh E3.out.drop, hO1, Zh ⟨⟨by omega, by rw [hp1.out, HA.out.1.2.1, cntN_take n 2 (by omega)], by omega⟩, rfl⟩⟩
    case measure => exact by have := HA.out; omega
   ·obtain rfl : i = 4 := by have := hj.2.2; omega
    clear hj hy
    have E2 := Zh (EL.out.push 5 [.int .u8 (((n / 4294967296 % 256 : Nat)) : Int)] wr.heap.size rfl)
    clear EL
    go_wp2_with (at_builtin; refine wpl_appB (news := [n / 4294967296 % 256]) (A := [(wr.heap.size, 5, [.int .u8 (((n / 4294967296 % 256 : Nat)) : Int)])]) rfl _ _ rfl E2.out hO.out rfl rfl (SrcN.bytes (E2.out.bx 0 rfl)) (B8.one (by omega)) (by have := HL.out; omega) ?_)
    intro sg1 cs1 p1 v1 c1 w2 hp1 hO1 E3
    go_wp2
    go_roundg (8 - (3 + 1))
    case rel => exact ⟨sg1, cs1, p1, v1, c1, 4, 3, rfl, rfl, Zh E3.out.drop, hO1, Zh ⟨⟨by omega, by rw [hp1.out, HA.out.1.2.1, cntN_take n 3 (by omega)], by omega⟩, rfl⟩⟩
    case measure => exact by have := HA.out; omega
   ·obtain rfl : i = 3 := by have := hj.2.2; omega
    clear hj hy
    have E2 := Zh (EL.out.push 5 [.int .u8 (((n / 16777216 % 256 : Nat)) : Int)] wr.heap.size rfl)
    clear EL
    go_wp2_with (at_builtin; refine wpl_appB (news := [n / 16777216 % 256]) (A := [(wr.heap.size, 5, [.int .u8 (((n / 16777216 % 256 : Nat)) : Int)])]) rfl _ _ rfl E2.out hO.out rfl rfl (SrcN.bytes (E2.out.bx 0 rfl)) (B8.one (by omega)) (by have := HL.out; omega) ?_)
    intro sg1 cs1 p1 v1 c1 w2 hp1 hO1 E3
    go_wp2
    go_roundg (8 - (4 + 1))
    case rel => exact ⟨sg1, cs1, p1, v1, c1, 5, 2, rfl, rfl, Zh E3.out.drop, hO1, Zh ⟨⟨by omega, by rw [hp1.out, HA.out.1.2.1, cntN_take n 4 (by omega)], by omega⟩, rfl⟩⟩
    case measure => exact by have := HA.out; omega
   ·obtain rfl : i = 2 := by have := hj.2.2; omega
    clear hj hy
    have E2 := Zh (EL.out.push 5 [.int .u8 (((n / 65536 % 256 : Nat)) : Int)] wr.heap.size rfl)
    clear EL
    go_wp2_with (at_builtin; refine wpl_appB (news := [n / 65536 % 256]) (A := [(wr.heap.size, 5, [.int .u8 (((n / 65536 % 256 : Nat)) : Int)])]) rfl _ _ rfl E2.out hO.out rfl rfl (SrcN.bytes (E2.out.bx 0 rfl)) (B8.one (by omega)) (by have := HL.out; omega) ?_)
    intro sg1 cs1 p1 v1 c1 w2 hp1 hO1 E3
    go_wp2
    go_roundg (8 - (5 + 1))
    case rel => exact ⟨sg1, cs1, p1, v1, c1, 6, 1, rfl, rfl, Zh E3.out.drop, hO1, Zh ⟨⟨by omega, by rw [hp1.out, HA.out.1.2.1, cntN_take n 5 (by omega)], by omega⟩, rfl⟩⟩
    case measure => exact by have := HA.out; omega
   ·obtain rfl : i = 1 := by have := hj.2.2; omega
    clear hj hy
    have E2 := Zh (EL.out.push 5 [.int .u8 (((n / 256 % 256 : Nat)) : Int)] wr.heap.size rfl)
    clear EL
    go_wp2_with (at_builtin; refine wpl_appB (news := [n / 256 % 256]) (A := [(wr.heap.size, 5, [.int .u8 (((n / 256 % 256 : Nat)) : Int)])]) rfl _ _ rfl E2.out hO.out rfl rfl (SrcN.bytes (E2.out.bx 0 rfl)) (B8.one (by omega)) (by have := HL.out; omega) ?_)
    intro sg1 cs1 p1 v1 c1 w2 hp1 hO1 E3
    go_wp2
    go_roundg (8 - (6 + 1))
    case rel => exact ⟨sg1, cs1, p1, v1, c1, 7, 0, rfl, rfl, Zh E3.out.drop, hO1, Zh ⟨⟨by omega, by rw [hp1.out, HA.out.1.2.1, cntN_take n 6 (by omega)], by omega⟩, rfl⟩⟩
    case measure => exact by have := HA.out; omega
   ·obtain rfl : i = 0 := by have := hj.2.2; omega
    clear hj hy
    have E2 := Zh (EL.out.push 5 [.int .u8 (((n % 256 : Nat)) : Int)] wr.heap.size rfl)
    clear EL
    go_wp2_with (at_builtin; refine wpl_appB (news := [n % 256]) (A := [(wr.heap.size, 5, [.int .u8 (((n % 256 : Nat)) : Int)])]) rfl _ _ rfl E2.out hO.out rfl rfl (SrcN.bytes (E2.out.bx 0 rfl)) (B8.one (by omega)) (by have := HL.out; omega) ?_)
    intro sg1 cs1 p1 v1 c1 w2 hp1 hO1 E3
    go_wp2
    go_roundg (8 - (7 + 1))
    case rel => exact ⟨sg1, cs1, p1, v1, c1, 8, -1, rfl, rfl, Zh E3.out.drop, hO1, Zh ⟨⟨by omega, by rw [hp1.out, HA.out.1.2.1, cntN_take n 7 (by omega)]; simp, by omega⟩, rfl⟩⟩
    case measure => exact by have := HA.out; omega
  subst hy
  obtain rfl : i = -1 := by have := HA.out.1.2.2; omega
  have hP : p = cntN n := by rw [HA.out.1.2.1]; exact List.take_of_length_le (by rw [cntN_len]; omega)
  subst hP
  have hfin := Zh EL.out.bel
  have hH := Zh (Env.heldS (A := []) EL.out)
  clear EL HA
  go_wp2
  go_ret
  exact ⟨⟨sg, cs, va, vc, rfl, hO, hH⟩, hfin.out⟩
open Go.RowKit
def rx (b : List Nat) (i : Nat) : Nat → Int
 | 0 => 0
 | k + 1 => (rx b i k * 256 % 4294967296 + ((b.getD (4 * i + k) 0 : Nat) : Int)) % 4294967296
def r16 (b : List Nat) (n : Nat) : List Int := (List.range n).map fun i => rx b i 4
def rW (b : List Nat) : Nat → List Int
 | 0 => r16 b 16
 | n + 1 => rW b n ++ [w4 ((rW b n).getD n 0) (sg0 ((rW b n).getD (n + 1) 0)) ((rW b n).getD (n + 9) 0) (sg1 ((rW b n).getD (n + 14) 0))]
theorem r16_len (b : List Nat) (n : Nat) : (r16 b n).length = n := by simp [r16]
theorem rW_len (b : List Nat) (n : Nat) : (rW b n).length = 16 + n := by
 induction n with
 | zero => exact r16_len b 16
 | succ n ih => rw [rW, List.length_append, ih]; rfl
theorem B8.at {l : List Nat} (h : B8 l) (i : Nat) : l.getD i 0 < 256 := by
 rw [List.getD_eq_getElem?_getD]
 by_cases hi : i < l.length
 ·rw [List.getElem?_eq_getElem hi]; exact h _ (List.getElem_mem hi)
 ·rw [List.getElem?_eq_none (by omega)]; simp
theorem shb_eq (x : Int) (c : Nat) (hc : c < 256) : shb x c = (x * 256 % 4294967296 + (c : Int)) % 4294967296 := by
 unfold shb
 rw [IntKind.wrap_u32, or_comm32, u32_or8 (y := ((c : Int) % 4294967296)) (x := x * 256 % 4294967296) (by omega) (by omega) (by omega) (by omega) (by omega)]
 omega
theorem in1_getD (b : List Nat) (i k : Nat) (ws : List Int) (hi : i < ws.length) (h8 : B8 b) (h0 : ws.getD i 0 = 0) : (in1 b i k ws).getD i 0 = rx b i k := by
 induction k with
 | zero => exact h0
 | succ k ih =>
  rw [in1, List.getD_eq_getElem?_getD, List.getElem?_set_self (by rw [in1_len]; exact hi), Option.getD_some, ih, shb_eq _ _ (h8.at _)]; rfl
theorem in1_ne (b : List Nat) (i k j : Nat) (ws : List Int) (hj : j ≠ i) : (in1 b i k ws).getD j 0 = ws.getD j 0 := by
 induction k with
 | zero => rfl
 | succ k ih => rw [in1, List.getD_eq_getElem?_getD, List.getElem?_set_ne (fun e => hj e.symm), ← List.getD_eq_getElem?_getD, ih]
theorem out1_getD (b : List Nat) (h8 : B8 b) : ∀ (n j : Nat), n ≤ 64 → (out1 b n).getD j 0 = if j < n then rx b j 4 else 0
 | 0, j, _ => by
  rw [if_neg (by omega), out1, List.getD_eq_getElem?_getD, List.getElem?_replicate]; split <;> rfl
 | n + 1, j, h => by
  have ih := out1_getD b h8 n
  rw [out1]
  by_cases e : j = n
  ·subst e
   rw [in1_getD b j 4 _ (by rw [out1_len]; omega) h8 (by rw [ih j (by omega), if_neg (by omega)]), if_pos (by omega)]
  ·rw [in1_ne b n 4 j _ e, ih j (by omega)]
   by_cases h1 : j < n
   ·rw [if_pos h1, if_pos (by omega)]
   ·rw [if_neg h1, if_neg (by omega)]
theorem rW_getD (b : List Nat) (h8 : B8 b) : ∀ (n j : Nat), n ≤ 48 → j < 16 + n → (rW b n).getD j 0 = (ext b n).getD j 0
 | 0, j, _, hj => by
  rw [rW, ext, out1_getD b h8 16 j (by omega), if_pos (by omega)]
  simp [r16, List.getD_eq_getElem?_getD, hj]
 | n + 1, j, h, hj => by
  have ih := rW_getD b h8 n
  rw [rW, ext]
  by_cases e : j = 16 + n
  ·subst e
   rw [List.getD_eq_getElem?_getD, List.getElem?_append_right (by rw [rW_len]; omega), rW_len, Nat.sub_self, List.getElem?_cons_zero, Option.getD_some,
    List.getD_eq_getElem?_getD (l := List.set _ _ _), List.getElem?_set_self (by rw [ext_len]; omega), Option.getD_some, ih n (by omega) (by omega), ih (n + 1) (by omega) (by omega), ih (n + 9) (by omega) (by omega), ih (n + 14) (by omega) (by omega)]
  ·rw [List.getD_eq_getElem?_getD, List.getElem?_append_left (by rw [rW_len]; omega), ← List.getD_eq_getElem?_getD, ih j (by omega) (by omega),
    List.getD_eq_getElem?_getD (l := List.set _ _ _), List.getElem?_set_ne (by omega), ← List.getD_eq_getElem?_getD]
theorem rW_ext (b : List Nat) (h8 : B8 b) : rW b 48 = ext b 48 := by
 apply List.ext_getElem?
 intro j
 by_cases hj : j < 64
 ·have h := rW_getD b h8 48 j (by omega) (by omega)
  rw [List.getD_eq_getElem?_getD, List.getD_eq_getElem?_getD, List.getElem?_eq_getElem (show j < (rW b 48).length by rw [rW_len]; omega), List.getElem?_eq_getElem (show j < (ext b 48).length by rw [ext_len]; omega)] at h
  rw [List.getElem?_eq_getElem (show j < (rW b 48).length by rw [rW_len]; omega), List.getElem?_eq_getElem (show j < (ext b 48).length by rw [ext_len]; omega)]
  exact congrArg some h
 ·rw [List.getElem?_eq_none (by rw [rW_len]; omega), List.getElem?_eq_none (by rw [ext_len]; omega)]
theorem OW.open {sg : List Bx} {cs : List Value} {a : Option Addr} {n c : Nat} {l : List Int} (h : OW sg cs (.slice a n c) l) (hl : l ≠ []) : ∃ g, sg = [(g, 74, cs)] ∧ a = some ⟨g, 0, none⟩ ∧ n ≤ c := by
 rcases h.1 with ⟨_, _, _, h0⟩ | ⟨g, cap, h1, h0, h2, _⟩
 ·exact absurd (List.length_eq_zero_iff.1 h0) hl
 ·simp only [Value.slice.injEq] at h0
  obtain ⟨rfl, rfl, rfl⟩ := h0
  exact ⟨g, h1, rfl, h2⟩
theorem OW.cell {W : World} {B g : Nat} {cs : List Value} {v : Value} {l : List Int} (h : OW [(g, 74, cs)] cs v l) (hB : Box B g 74 cs W) (j : Nat) (hj : j < l.length) : W.cell? ⟨g, j, none⟩ = some (.int .u32 (l.getD j 0)) := by
 have h1 := wv_get hj
 rw [← h.2, List.getElem?_take, if_pos hj] at h1
 exact hB.cell j h1
theorem words_c (b : List Nat) (hb0 : b.length = 64) (h80 : B8 b) {pb po pk : Nat} {w : World} (h0 : Fct.at w (fun _ => True) (.gn (gBy pb po b))) :
  Calls Tryz.prog 117 #[.slice (some ⟨pb, po, none⟩) 64 pk] w fun e w' => (∃ g cs vc, e = .returned (.slice (some ⟨g, 0, none⟩) 64 vc) ∧ Hid (OW [(g, 74, cs)] cs (.slice (some ⟨g, 0, none⟩) 64 vc) (ext b 48)) ∧ Hid (Box w.heap.size g 74 cs w')) ∧ Below w.heap.size w w' := by
 have E0 := Zh ((Env.start (fun _ => True) w).arg (.gn (gBy pb po b)) h0)
 clear h0
 have hb := Zh (And.intro hb0 h80)
 clear hb0 h80
 go_enter Tryz.func117, Tryz.ntmps117
 go_wp2_with fail
 go_loopg [3, 4] (16) (fun gk z3 z4 wr => ∃ (sg : List Bx) (cs : List Value) (p : List Int) (va : Option Addr) (vc i : Nat), z3 = .slice va p.length vc ∧ z4 = .int .i64 (i : Int) ∧ Hid (Env (fun _ => True) w ([] ++ sg) [.gn (gBy pb po b)] wr) ∧ Hid (OW sg cs (.slice va p.length vc) p) ∧ Hid ((i ≤ 16 ∧ p = r16 b i) ∧ gk = 16 - i))
 case atStart => exact ⟨[], [], [], none, 0, 0, rfl, rfl, E0, Zh OW.nil, Zh ⟨⟨Nat.zero_le _, rfl⟩, rfl⟩⟩
 case round =>
  clear E0
  obtain ⟨sg, cs, p, va, vc, i, rfl, rfl, EL, hO, HA⟩ := hrel
  have hL : Hid (p.length = i) := Zh (by rw [HA.out.1.2, r16_len])
  by_cases hy : i = 16
  rotate_left
  ·have hi : i < 16 := by have := HA.out; omega
   have t1 : decide ((i : Int) < 16) = true := decide_eq_true (by omega)
   have t1' : decide (i < 16) = true := decide_eq_true hi
   have HI := Zh hi
   clear hy hi
   go_wp2_with fail
   rename World => wz
   go_loopg [5, 6] (4) (fun gk z5 z6 wr => ∃ (k : Nat), z5 = .int .u32 (rx b i k) ∧ z6 = .int .i64 (k : Int) ∧ Hid (Env (fun _ => True) w ([] ++ sg) [.gn (gBy pb po b)] wr) ∧ Hid (k ≤ 4 ∧ gk = 4 - k))
   case atStart => exact ⟨0, rfl, rfl, EL, Zh ⟨Nat.zero_le _, rfl⟩⟩
   case round =>
    clear EL
    obtain ⟨k, rfl, rfl, EJ, HJ⟩ := hrel
    obtain ⟨x, hx⟩ : ∃ x, rx b i k = x := ⟨_, rfl⟩
    rw [hx]
    by_cases hw : k = 4
    rotate_left
    ·have hk : k < 4 := by have := HJ.out; omega
     have t2 : decide ((k : Int) < 4) = true := decide_eq_true (by omega)
     have t2' : decide (k < 4) = true := decide_eq_true hk
     obtain ⟨m, hm⟩ : ∃ m, m = 4 * i + k := ⟨_, rfl⟩
     have u4 : wrap64 (4 * (i : Int)) = 4 * (i : Int) := by have := HI.out; unfold wrap64; omega
     have u5 : wrap64 (4 * (i : Int) + (k : Int)) = (m : Int) := by have := HI.out; unfold wrap64; omega
     have t3 : decide (m < 64) = true := decide_eq_true (by have := HI.out; omega)
     have t4 : (m : Int) < 64 := by have := HI.out; omega
     have c1 := gBy.get (EJ.out.fc 0 rfl) m (by rw [hb.out.1]; omega)
     obtain ⟨c, hc⟩ : ∃ c, b.getD m 0 = c := ⟨_, rfl⟩
     rw [hc] at c1
     have hc8 : c < 256 := by rw [← hc]; exact hb.out.2.at m
     have v1 : IntKind.u32.wrap (c : Int) = (c : Int) := by rw [IntKind.wrap_u32]; omega
     have HX := Zh (show rx b i (k + 1) = (x * 256 % 4294967296 + (c : Int)) % 4294967296 by rw [rx, hx, ← hm, hc])
     have u6 : wrap64 ((k : Int) + 1) = ((k + 1 : Nat) : Int) := by unfold wrap64; omega
     have HK := Zh hk
     clear hw hk hm hc hc8 hx
     go_wp2
     go_roundg (4 - (k + 1))
     case rel => exact ⟨k + 1, by rw [HX.out], by first | rfl | rw [u6], EJ, Zh ⟨by have := HK.out; omega, rfl⟩⟩
     case measure => exact by have := HK.out; have := HJ.out; omega
    subst hw
    have HX := Zh hx
    clear hx
    have E2 := Zh (EJ.out.push 74 ([x].map wv) wr.heap.size rfl)
    clear EJ
    go_wp2_with (at_builtin; refine wpl_appW (news := [x]) (A := [(wr.heap.size, 74, [x].map wv)]) rfl _ _ rfl E2.out hO.out rfl rfl (SrcN.words (E2.out.bx 0 rfl) rfl) (by have := hL.out; have := HI.out; omega) ?_)
    intro sg1 cs1 p1 va1 vc1 w2 hp1 hO1 E3
    have u7 : wrap64 ((i : Int) + 1) = ((i + 1 : Nat) : Int) := by have := HI.out; unfold wrap64; omega
    go_wp2
    go_roundg (16 - (i + 1))
    case rel => exact ⟨sg1, cs1, p1, va1, vc1, i + 1, rfl, by first | rfl | rw [u7], Zh E3.out.drop, hO1, Zh ⟨⟨by have := HI.out; omega, by rw [hp1.out, HA.out.1.2, ← HX.out]; simp [r16, List.range_succ]⟩, rfl⟩⟩
    case measure => exact by have := HI.out; have := HA.out; omega
  subst hy
  have t1 : decide ((16 : Int) < 16) = false := decide_eq_false (by omega)
  obtain ⟨g, rfl, rfl, _⟩ := hO.out.open (by rintro rfl; have := hL.out; simp at this)
  have HP : Hid (p = rW b 0) := Zh HA.out.1.2
  clear HA hL
  go_wp2_with fail
  rename World => wz
  go_loopg [3, 7] (48) (fun gk z3 z7 wr => ∃ (g : Nat) (cs : List Value) (p : List Int) (vc t n : Nat), z3 = .slice (some ⟨g, 0, none⟩) t vc ∧ z7 = .int .i64 (t : Int) ∧ Hid (Env (fun _ => True) w ([] ++ [(g, 74, cs)]) [.gn (gBy pb po b)] wr) ∧ Hid (OW [(g, 74, cs)] cs (.slice (some ⟨g, 0, none⟩) t vc) p) ∧ Hid ((n ≤ 48 ∧ p = rW b n ∧ t = 16 + n ∧ t = p.length) ∧ gk = 48 - n))
  case atStart => exact ⟨g, cs, p, vc, 16, 0, by rw [show p.length = 16 by rw [HP.out, rW_len]], rfl, EL, Zh (by have h := hO.out; rw [show p.length = 16 by rw [HP.out, rW_len]] at h; exact h), Zh ⟨⟨Nat.zero_le _, HP.out, rfl, by rw [HP.out, rW_len]⟩, rfl⟩⟩
  case round =>
   clear EL hO HP
   obtain ⟨g, cs, p, vc, t, n, rfl, rfl, EL, hO, HA⟩ := hrel
   by_cases hy : n = 48
   rotate_left
   ·have ht : t < 64 := by have := HA.out.1; omega
    have t1 : decide ((t : Int) < 64) = true := decide_eq_true (by omega)
    have t1' : decide (t < 64) = true := decide_eq_true ht
    obtain ⟨i1, e1⟩ : ∃ i1, i1 = n + 1 := ⟨_, rfl⟩
    obtain ⟨i2, e2⟩ : ∃ i2, i2 = n + 14 := ⟨_, rfl⟩
    obtain ⟨i7, e7⟩ : ∃ i7, i7 = n + 9 := ⟨_, rfl⟩
    have HN := Zh (And.intro (And.intro ht hy) (And.intro e1 (And.intro e2 e7)))
    have y1 : IntKind.i64.wrap ((t : Int) - 15) = (i1 : Int) := by have := HA.out; rw [IntKind.wrap_i64]; omega
    have y2 : IntKind.i64.wrap ((t : Int) - 2) = (i2 : Int) := by have := HA.out; rw [IntKind.wrap_i64]; omega
    have y3 : IntKind.i64.wrap ((t : Int) - 16) = (n : Int) := by have := HA.out; rw [IntKind.wrap_i64]; omega
    have y7 : IntKind.i64.wrap ((t : Int) - 7) = (i7 : Int) := by have := HA.out; rw [IntKind.wrap_i64]; omega
    have k1 : (i1 : Int) < (t : Int) := by have := HA.out.1; omega
    have k2 : (i2 : Int) < (t : Int) := by have := HA.out.1; omega
    have k3 : (n : Int) < (t : Int) := by have := HA.out.1; omega
    have k7 : (i7 : Int) < (t : Int) := by have := HA.out.1; omega
    have d1 : decide (i1 < t) = true := decide_eq_true (by omega)
    have d2 : decide (i2 < t) = true := decide_eq_true (by omega)
    have d3 : decide (n < t) = true := decide_eq_true (by omega)
    have d7 : decide (i7 < t) = true := decide_eq_true (by omega)
    clear ht hy e1 e2 e7
    go_wp2_with fail
    have ED := Zh EL.out.drew
    clear EL
    have c1 := hO.out.cell (ED.out.bx 0 rfl) i1 (by have := HA.out.1; have := HN.out; omega)
    have c2 := hO.out.cell (ED.out.bx 0 rfl) i2 (by have := HA.out.1; have := HN.out; omega)
    obtain ⟨x, hx⟩ : ∃ x, p.getD i1 0 = x := ⟨_, rfl⟩
    obtain ⟨y, hy⟩ : ∃ x, p.getD i2 0 = x := ⟨_, rfl⟩
    rw [hx] at c1
    rw [hy] at c2
    refine wp_regionU (S := fun w' => w'.cell? ⟨g, i1, none⟩ = some (.int .u32 x) ∧ w'.cell? ⟨g, i2, none⟩ = some (.int .u32 y)) [] (by kernel_rfl) ⟨c1, c2⟩ (fun hHeld => ?_)
    clear c1 c2
    generalize wr.drew = wd at *
    refine uPl [0, 1, 2, 3, 4, 5, 6, 7, 8, 9, 10, 11] ?_
    iterate 12 (refine uTl (v := ?_) ?_ ?_; rotate_left; (focus (intro wS hSw; (try dsimp only at hSw); go_simp; try with_reducible rfl)); try simp only [Act.put, pq0, pq1, pq2])
    refine Pl.z ?_
    refine uDone (by kernel_rfl) ?_ _
    clear hHeld
    go_wp2_with fail
    refine (rright_c 7 _ rfl).mono ?_
    rintro e wr1 ⟨rfl, hb⟩
    have ER1 := Zh (ED.out.below hb)
    clear ED hb
    go_wp2_with fail
    refine (rright_c 18 _ rfl).mono ?_
    rintro e wr2 ⟨rfl, hb⟩
    have ER2 := Zh (ER1.out.below hb)
    clear ER1 hb
    go_wp2_with fail
    refine (rright_c 17 _ rfl).mono ?_
    rintro e wr3 ⟨rfl, hb⟩
    have ER3 := Zh (ER2.out.below hb)
    clear ER2 hb
    go_wp2_with fail
    refine (rright_c 19 _ rfl).mono ?_
    rintro e wr4 ⟨rfl, hb⟩
    have ER4 := Zh (ER3.out.below hb)
    clear ER3 hb
    go_wp2_with fail
    have EE := Zh ER4.out.drew
    clear ER4
    have c3 := hO.out.cell (EE.out.bx 0 rfl) n (by have := HA.out.1; omega)
    have c7 := hO.out.cell (EE.out.bx 0 rfl) i7 (by have := HA.out.1; have := HN.out; omega)
    obtain ⟨z, hz⟩ : ∃ x, p.getD n 0 = x := ⟨_, rfl⟩
    obtain ⟨q, hq⟩ : ∃ x, p.getD i7 0 = x := ⟨_, rfl⟩
    rw [hz] at c3
    rw [hq] at c7
    have HQ := Zh (And.intro (And.intro hx hy) (And.intro hz hq))
    clear hx hy hz hq
    refine wp_regionU (S := fun w' => w'.cell? ⟨g, n, none⟩ = some (.int .u32 z) ∧ w'.cell? ⟨g, i7, none⟩ = some (.int .u32 q)) [17, 18] (by kernel_rfl) ⟨c3, c7⟩ (fun hHeld => ?_)
    clear c3 c7
    generalize wr4.drew = we at *
    refine uTakeT (i := 0) (some 65) (v := ?_) rfl rfl (by kernel_rfl) (by kernel_rfl) (by kernel_rfl) (by kernel_rfl) (by rfl) (fun _ _ _ h => h) (by rfl) (by assumption) ?_ ?_
    rotate_left
    ·(intro wS hSw; (try dsimp only at hSw); go_simp; try with_reducible rfl)
    try simp only [Act.put, pq0, pq1, pq2]
    refine uTakeT (i := 1) (some 66) (v := ?_) rfl rfl (by kernel_rfl) (by kernel_rfl) (by kernel_rfl) (by kernel_rfl) (by rfl) (fun _ _ _ h => h) (by rfl) (by assumption) ?_ ?_
    rotate_left
    ·(intro wS hSw; (try dsimp only at hSw); go_simp; try with_reducible rfl)
    try simp only [Act.put, pq0, pq1, pq2]
    refine uTakeT (i := 2) (some 67) (v := ?_) rfl rfl (by kernel_rfl) (by kernel_rfl) (by kernel_rfl) (by kernel_rfl) (by rfl) (fun _ _ _ h => h) (by rfl) (by assumption) ?_ ?_
    rotate_left
    ·(intro wS hSw; (try dsimp only at hSw); go_simp; try with_reducible rfl)
    try simp only [Act.put, pq0, pq1, pq2]
    refine uTakeT (i := 3) (some 68) (v := ?_) rfl rfl (by kernel_rfl) (by kernel_rfl) (by kernel_rfl) (by kernel_rfl) (by rfl) (fun _ _ _ h => h) (by rfl) (by assumption) ?_ ?_
    rotate_left
    ·(intro wS hSw; (try dsimp only at hSw); go_simp; try with_reducible rfl)
    try simp only [Act.put, pq0, pq1, pq2]
    refine uTakeT (i := 4) (some 69) (v := ?_) rfl rfl (by kernel_rfl) (by kernel_rfl) (by kernel_rfl) (by kernel_rfl) (by rfl) (fun _ _ _ h => h) (by rfl) (by assumption) ?_ ?_
    rotate_left
    ·(intro wS hSw; (try dsimp only at hSw); go_simp; try with_reducible rfl)
    try simp only [Act.put, pq0, pq1, pq2]
    refine uTakeT (i := 5) (some 70) (v := ?_) rfl rfl (by kernel_rfl) (by kernel_rfl) (by kernel_rfl) (by kernel_rfl) (by rfl) (fun _ _ _ h => h) (by rfl) (by assumption) ?_ ?_
    rotate_left
    ·(intro wS hSw; (try dsimp only at hSw); go_simp; try with_reducible rfl)
    try simp only [Act.put, pq0, pq1, pq2]
    refine uTakeT (i := 6) (some 71) (v := ?_) rfl rfl (by kernel_rfl) (by kernel_rfl) (by kernel_rfl) (by kernel_rfl) (by rfl) (fun _ _ _ h => h) (by rfl) (by assumption) ?_ ?_
    rotate_left
    ·(intro wS hSw; (try dsimp only at hSw); go_simp; try with_reducible rfl)
    try simp only [Act.put, pq0, pq1, pq2]
    refine uTakeT (i := 7) (some 72) (v := ?_) rfl rfl (by kernel_rfl) (by kernel_rfl) (by kernel_rfl) (by kernel_rfl) (by rfl) (fun _ _ _ h => h) (by rfl) (by assumption) ?_ ?_
    rotate_left
    ·(intro wS hSw; (try dsimp only at hSw); go_simp; try with_reducible rfl)
    try simp only [Act.put, pq0, pq1, pq2]
    refine uTakeT (i := 8) (some 73) (v := ?_) rfl rfl (by kernel_rfl) (by kernel_rfl) (by kernel_rfl) (by kernel_rfl) (by rfl) (fun _ _ _ h => h) (by rfl) (by assumption) ?_ ?_
    rotate_left
    ·(intro wS hSw; (try dsimp only at hSw); go_simp; try with_reducible rfl)
    try simp only [Act.put, pq0, pq1, pq2]
    refine uTakeT (i := 9) (some 74) (v := ?_) rfl rfl (by kernel_rfl) (by kernel_rfl) (by kernel_rfl) (by kernel_rfl) (by rfl) (fun _ _ _ h => h) (by rfl) (by assumption) ?_ ?_
    rotate_left
    ·(intro wS hSw; (try dsimp only at hSw); go_simp; try with_reducible rfl)
    try simp only [Act.put, pq0, pq1, pq2]
    refine uTakeT (i := 10) (some 75) (v := ?_) rfl rfl (by kernel_rfl) (by kernel_rfl) (by kernel_rfl) (by kernel_rfl) (by rfl) (fun _ _ _ h => h) (by rfl) (by assumption) ?_ ?_
    rotate_left
    ·(intro wS hSw; (try dsimp only at hSw); go_simp; try with_reducible rfl)
    try simp only [Act.put, pq0, pq1, pq2]
    refine uTakeT (i := 11) (some 76) (v := ?_) rfl rfl (by kernel_rfl) (by kernel_rfl) (by kernel_rfl) (by kernel_rfl) (by rfl) (fun _ _ _ h => h) (by rfl) (by assumption) ?_ ?_
    rotate_left
    ·(intro wS hSw; (try dsimp only at hSw); go_simp; try with_reducible rfl)
    try simp only [Act.put, pq0, pq1, pq2]
    refine uTakeT (i := 12) (some 77) (v := ?_) rfl rfl (by kernel_rfl) (by kernel_rfl) (by kernel_rfl) (by kernel_rfl) (by rfl) (fun _ _ _ h => h) (by rfl) (by assumption) ?_ ?_
    rotate_left
    ·(intro wS hSw; (try dsimp only at hSw); go_simp; try with_reducible rfl)
    try simp only [Act.put, pq0, pq1, pq2]
    refine uTakeT (i := 13) (some 78) (v := ?_) rfl rfl (by kernel_rfl) (by kernel_rfl) (by kernel_rfl) (by kernel_rfl) (by rfl) (fun _ _ _ h => h) (by rfl) (by assumption) ?_ ?_
    rotate_left
    ·(intro wS hSw; (try dsimp only at hSw); go_simp; try with_reducible rfl)
    try simp only [Act.put, pq0, pq1, pq2]
    refine uTakeT (i := 14) (some 79) (v := ?_) rfl rfl (by kernel_rfl) (by kernel_rfl) (by kernel_rfl) (by kernel_rfl) (by rfl) (fun _ _ _ h => h) (by rfl) (by assumption) ?_ ?_
    rotate_left
    ·(intro wS hSw; (try dsimp only at hSw); go_simp; try with_reducible rfl)
    try simp only [Act.put, pq0, pq1, pq2]
    refine uTakeT (i := 15) (some 80) (v := ?_) rfl rfl (by kernel_rfl) (by kernel_rfl) (by kernel_rfl) (by kernel_rfl) (by rfl) (fun _ _ _ h => h) (by rfl) (by assumption) ?_ ?_
    rotate_left
    ·(intro wS hSw; (try dsimp only at hSw); go_simp; try with_reducible rfl)
    try simp only [Act.put, pq0, pq1, pq2]
    have EP : Hid (Env (fun _ => True) w ([(we.heap.size, 74, [w4 z (sg0 x) q (sg1 y)].map wv)] ++ [(g, 74, cs)]) [.gn (gBy pb po b)] _) := Zh (EE.out.push 74 ([w4 z (sg0 x) q (sg1 y)].map wv) we.heap.size rfl)
    refine uRd 16 (fun KK hKK => ?_)
    go_simp
    change KK _ (we.alloc (.cells ([w4 z (sg0 x) q (sg1 y)].map wv).toArray 74))
    refine hKK.out _ _ ⟨(hO.out.cell (EP.out.bx 1 rfl) n (by have := HA.out.1; have := HN.out; omega)).trans (by rw [HQ.out.2.1]), (hO.out.cell (EP.out.bx 1 rfl) i7 (by have := HA.out.1; have := HN.out; omega)).trans (by rw [HQ.out.2.2])⟩ (fun hHeld => ?_)
    clear hKK KK
    try simp only [Act.put, pq0, pq1, pq2]
    obtain ⟨wf, hwf⟩ : ∃ wf, we.alloc (.cells ([w4 z (sg0 x) q (sg1 y)].map wv).toArray 74) = wf := ⟨_, rfl⟩
    rw [hwf] at EP hHeld ⊢
    clear hwf EE
    refine uReady (rs := [17]) (by kernel_rfl) (by simp) ?_
    refine ReadyU.consU (by kernel_rfl) rfl (fun KK hKK => ?_) ReadyU.nil
    refine op_appW (some 82) rfl rfl (.tmp 65) (.tmp 81) rfl EP.out hO.out (by have := HA.out.1.2.2.2; simp [Act.eval]) rfl (SrcN.words (EP.out.bx 0 rfl) rfl) (by have := HA.out.1; have := HN.out; omega) ?_
    intro sg1 cs1 p1 va1 vc1 w5 hp1 hO1 E3
    refine hKK.out _ _ ?_
    clear hKK KK hHeld
    try simp only [Act.put, pq0, pq1, pq2]
    refine uPure (i := 18) (some 3) (v := ?_) rfl rfl (by kernel_rfl) (by kernel_rfl) (by kernel_rfl) (by kernel_rfl) (fun _ _ _ h => h) (by rfl) ?_ ?_
    rotate_left
    ·(intro wS; go_simp; try with_reducible rfl)
    try simp only [Act.put, pq0, pq1, pq2]
    refine uDone (by kernel_rfl) ?_ _
    have HL1 : Hid (p1.length = t + 1) := Zh (by rw [hp1.out, List.length_append, ← HA.out.1.2.2.2]; rfl)
    obtain ⟨g1, rfl, rfl, _⟩ := hO1.out.open (by rintro rfl; have := HL1.out; simp at this)
    clear y1 y2 y3 y7 k1 k2 k3 k7 d1 d2 d3 d7 t1 t1'
    have u8 : wrap64 ((t : Int) + 1) = ((t + 1 : Nat) : Int) := by have := HN.out; unfold wrap64; omega
    go_wp2
    go_roundg (48 - (n + 1))
    case rel => exact ⟨g1, cs1, p1, vc1, t + 1, n + 1, by rw [HL1.out], by first | rfl | rw [u8], Zh E3.out.drop, Zh (by have h := hO1.out; rw [HL1.out] at h; exact h), Zh ⟨⟨by have := HA.out.1; have := HN.out; omega, by rw [hp1.out, rW, ← HA.out.1.2.1, ← HQ.out.1.1, ← HQ.out.1.2, ← HQ.out.2.1, ← HQ.out.2.2, HN.out.2.1, HN.out.2.2.1, HN.out.2.2.2], by have := HA.out.1; omega, HL1.out.symm⟩, rfl⟩⟩
    case measure => exact by have := HA.out; have := HN.out; omega
   subst hy
   obtain rfl : t = 64 := by have := HA.out.1.2.2.1; omega
   have t1 : decide ((64 : Int) < 64) = false := decide_eq_false (by omega)
   have hfin := Zh EL.out.bel
   have hX := Zh (EL.out.bx 0 rfl)
   have HP : Hid (p = ext b 48) := Zh (by rw [HA.out.1.2.1, rW_ext b hb.out.2])
   clear HA EL
   go_wp2
   go_ret
   exact ⟨⟨g, cs, vc, rfl, Zh (by rw [← HP.out]; exact hO.out), hX⟩, hfin.out⟩
open Go.RowKit
theorem OB.empty (g : Nat) : OB [(g, 5, [])] [] (.slice (some ⟨g, 0, none⟩) 0 0) [] := ⟨⟨.inr ⟨g, 0, rfl, rfl, Nat.le_refl _, by omega, rfl⟩, rfl⟩, by intro u hu; cases hu⟩
theorem OW.empty (g : Nat) : OW [(g, 74, [])] [] (.slice (some ⟨g, 0, none⟩) 0 0) [] := ⟨.inr ⟨g, 0, rfl, rfl, Nat.le_refl _, by omega, rfl⟩, rfl⟩
theorem rpad_c (l : List Nat) {a : Option Addr} {c : Nat} {w : World} (h0 : Fct.at w (fun _ => True) (.bs (.slice a l.length c) l)) (hm0 : l.length ≤ 50000) :
  Calls Tryz.prog 116 #[.slice a l.length c] w fun e w' => (∃ va vc, e = .returned (.slice va (pad l).length vc) ∧ Hid (Bs w' (fun b => w.heap.size ≤ b) (.slice va (pad l).length vc) (pad l))) ∧ Below w.heap.size w w' := by
 have E0 := Zh ((Env.start (fun _ => True) w).arg (.bs (.slice a l.length c) l) h0)
 have hm := Zh hm0
 clear h0 hm0
 go_enter Tryz.func116, Tryz.ntmps116
 have E1 := Zh (E0.out.push 5 [] w.heap.size rfl)
 clear E0
 go_wp2_with (at_builtin; refine wpl_appB (A := []) rfl _ _ rfl E1.out (OB.empty _) rfl rfl (Bs.src (E1.out.fc 0 rfl)).2.1 (Bs.src (E1.out.fc 0 rfl)).2.2 (by have := hm.out; simp only [List.length_nil]; omega) ?_)
 intro sg cs p va vc w1 hp hO E2
 have E3 := Zh (E2.out.push 5 (bcl [128]) w1.heap.size rfl)
 have hpl : Hid (p = l) := Zh (hp.out.trans (List.nil_append l))
 clear E1 E2 hp
 go_wp2_with (at_builtin; refine wpl_appB (A := [(w1.heap.size, 5, bcl [128])]) rfl _ _ rfl E3.out hO.out rfl rfl (SrcN.bytes (E3.out.bx 0 rfl)) (B8.one (by omega)) (by have := hm.out; rw [hpl.out]; omega) ?_)
 intro sg1 cs1 p1 v1 c1 w2 hp1 hO1 E4
 clear E3 hO
 have EA : Hid (Env (fun _ => True) w ([] ++ sg1) [.bs (.slice a l.length c) l] w2) := Zh E4.out.drop
 clear E4
 go_wp2_with fail
 go_loopg [3] (zrs l.length) (fun gk z3 wr => ∃ (sg : List Bx) (cs : List Value) (p : List Nat) (va : Option Addr) (vc k : Nat), z3 = .slice va p.length vc ∧ Hid (Env (fun _ => True) w ([] ++ sg) [.bs (.slice a l.length c) l] wr) ∧ Hid (OB sg cs (.slice va p.length vc) p) ∧ Hid ((k ≤ zrs l.length ∧ p = l ++ [128] ++ List.replicate k 0) ∧ gk = zrs l.length - k))
 case atStart => exact ⟨sg1, cs1, p1, v1, c1, 0, rfl, EA, hO1, Zh ⟨⟨Nat.zero_le _, by rw [hp1.out, hpl.out]; simp⟩, rfl⟩⟩
 case round =>
  clear EA hO1 hp1 hpl
  obtain ⟨sg, cs, p, va, vc, k, rfl, EL, hO, HA⟩ := hrel
  by_cases hy : k = zrs l.length
  rotate_left
  ·have hL : p.length = l.length + 1 + k := by rw [HA.out.1.2]; simp; omega
   have hk : k < zrs l.length := by have := HA.out.1.1; omega
   have q1 : ¬ (p.length % 64 = 56) := by rw [hL, zrs_stop _ _ (by omega)]; exact hy
   have q2 : ¬ ((p.length : Int) % 64 = 56) := by omega
   have HK := Zh (And.intro hk hL)
   clear hk hL hy
   have E2 := Zh (EL.out.push 5 (bcl [0]) wr.heap.size rfl)
   clear EL
   go_wp2_with (at_builtin; refine wpl_appB (A := [(wr.heap.size, 5, bcl [0])]) rfl _ _ rfl E2.out hO.out rfl rfl (SrcN.bytes (E2.out.bx 0 rfl)) (B8.one (by omega)) (by have := hm.out; have := HK.out; have := zrs_lt l.length; omega) ?_)
   intro sg1 cs1 p1 v1 c1 w2 hp1 hO1 E3
   go_wp2
   go_roundg (zrs l.length - (k + 1))
   case rel => exact ⟨sg1, cs1, p1, v1, c1, k + 1, rfl, Zh E3.out.drop, hO1, Zh ⟨⟨by have := HK.out; omega, by rw [hp1.out, HA.out.1.2, List.replicate_succ']; simp⟩, rfl⟩⟩
   case measure => exact by have := HK.out; have := HA.out; omega
  have hL : p.length = l.length + 1 + k := by rw [HA.out.1.2]; simp; omega
  have q1 : p.length % 64 = 56 := by rw [hL, zrs_stop _ _ (by omega)]; exact hy
  have q2 : (p.length : Int) % 64 = 56 := by omega
  have u2 : wrap64 (8 * (l.length : Int)) = ((8 * l.length : Nat) : Int) := by have := hm.out; unfold wrap64; omega
  have HP : Hid (p = l ++ [128] ++ List.replicate (zrs l.length) 0) := Zh (by rw [HA.out.1.2, hy])
  clear hL hy HA
  go_wp2_with fail
  refine (rbytes_c (8 * l.length) (by have := hm.out; omega)).mono ?_
  rintro e w3 ⟨⟨sb, cb, ba, bk, rfl, hB, hH⟩, hb⟩
  have E2 := Zh (Env.freezeB (A := [] ++ sg) (EL.out.gotSeg hb hH.out) hB.out)
  clear EL hb hB hH
  go_wp2_with (at_builtin; refine wpl_appB (A := []) rfl _ _ rfl E2.out hO.out rfl rfl (Bs.src (E2.out.fc 0 rfl)).2.1 (cntN_8 _) (by have := hm.out; have := zrs_lt l.length; rw [HP.out]; simp; omega) ?_)
  intro sg1 cs1 P v1 c1 w4 hp1 hO1 E3
  obtain rfl : P = pad l := by rw [hp1.out, HP.out]; rfl
  have hB := Zh (hO1.out.bs (Env.heldS (A := []) E3.out))
  have hbel := Zh E3.out.bel
  clear E2 E3 hO hO1 hp1 HP
  go_wp2
  go_ret
  exact ⟨⟨v1, c1, rfl, hB⟩, hbel.out⟩
theorem rjoin_c (l H : List Nat) (hH0 : H.length = 32) (h80 : B8 H) {a : Option Addr} {c : Nat} {w : World} (h0 : Fct.at w (fun _ => True) (.bs (.slice a l.length c) l)) (hm0 : l.length ≤ 100000) :
  Calls Tryz.prog 87 #[.slice a l.length c, .agg (bcl H).toArray] w fun e w' => (∃ sg cs va vc, e = .returned (.slice va (l ++ H).length vc) ∧ Hid (OB sg cs (.slice va (l ++ H).length vc) (l ++ H)) ∧ Hid (HeldF w.heap.size sg w')) ∧ Below w.heap.size w w' := by
 have E0 := Zh ((Env.start (fun _ => True) w).arg (.bs (.slice a l.length c) l) h0)
 have hm := Zh hm0
 have HH := Zh (And.intro hH0 h80)
 clear h0 hm0 hH0 h80
 go_enter Tryz.func87, Tryz.ntmps87
 have E1 := Zh (((E0.out.push 69 (bcl H) w.heap.size rfl).push 5 [] (w.heap.size + 1) (by simp)).perm (List.Perm.swap _ _ _))
 clear E0
 go_wp2_with (at_builtin; refine wpl_appB (A := [(w.heap.size, 69, bcl H)]) rfl _ _ rfl E1.out (OB.empty _) rfl rfl (Bs.src (E1.out.fc 0 rfl)).2.1 (Bs.src (E1.out.fc 0 rfl)).2.2 (by have := hm.out; simp only [List.length_nil]; omega) ?_)
 intro sg cs p va vc w1 hp hO E2
 have hpl : Hid (p = l ++ H.take 0) := Zh (by rw [hp.out]; simp)
 clear E1 hp
 go_wp2_with fail
 go_loopg [5, 6] (32) (fun gk z5 z6 wr => ∃ (sg : List Bx) (cs : List Value) (p : List Nat) (va : Option Addr) (vc i : Nat), z5 = .slice va p.length vc ∧ z6 = .int .i64 (i : Int) ∧ Hid (Env (fun _ => True) w ([(w.heap.size, 69, bcl H)] ++ sg) [.bs (.slice a l.length c) l] wr) ∧ Hid (OB sg cs (.slice va p.length vc) p) ∧ Hid ((i ≤ 32 ∧ p = l ++ H.take i) ∧ gk = 32 - i))
 case atStart => exact ⟨sg, cs, p, va, vc, 0, rfl, rfl, E2, hO, Zh ⟨⟨Nat.zero_le _, hpl.out⟩, rfl⟩⟩
 case round =>
  clear E2 hO hpl
  obtain ⟨sg, cs, p, va, vc, i, rfl, rfl, EL, hO, HA⟩ := hrel
  by_cases hy : i = 32
  rotate_left
  ·have hi : i < 32 := by have := HA.out; omega
   have t1 : decide ((i : Int) < 32) = true := decide_eq_true (by omega)
   have t1' : decide (i < 32) = true := decide_eq_true hi
   have t2 : (i : Int) < 32 := by omega
   have hil : i < H.length := by rw [HH.out.1]; exact hi
   have hx1 := bcl_get H i hil
   have hx2 := HH.out.2 _ (List.getElem_mem hil)
   have hx3 := List.take_succ_eq_append_getElem hil
   obtain ⟨x, hx⟩ : ∃ x, H[i] = x := ⟨_, rfl⟩
   rw [hx] at hx1 hx2 hx3
   have c1 := (EL.out.bx 0 rfl).cell i hx1
   have HI := Zh (And.intro hi (And.intro hx2 hx3))
   have hpb : Hid (p.length ≤ 200000) := Zh (by rw [HA.out.1.2, List.length_append, List.length_take]; have := hm.out; omega)
   have E2 := Zh (EL.out.push 5 (bcl [x]) wr.heap.size rfl)
   clear hy hi hil hx hx1 hx2 hx3 EL
   go_wp2_with (at_builtin; refine wpl_appB (news := [x]) (A := [(wr.heap.size, 5, bcl [x]), (w.heap.size, 69, bcl H)]) rfl _ _ rfl E2.out hO.out rfl rfl (SrcN.bytes (E2.out.bx 0 rfl)) (B8.one HI.out.2.1) (by have := hpb.out; omega) ?_)
   intro sg1 cs1 p1 v1 c1' w2 hp1 hO1 E3
   have u7 : wrap64 ((i : Int) + 1) = ((i + 1 : Nat) : Int) := by have := HI.out; unfold wrap64; omega
   go_wp2
   go_roundg (32 - (i + 1))
   case rel => exact ⟨sg1, cs1, p1, v1, c1', i + 1, rfl, by first | rfl | rw [u7], Zh E3.out.drop, hO1, Zh ⟨⟨by have := HI.out; omega, by rw [hp1.out, HA.out.1.2, HI.out.2.2, List.append_assoc]⟩, rfl⟩⟩
   case measure => exact by have := HI.out; have := HA.out; omega
  subst hy
  obtain rfl : p = l ++ H := by rw [HA.out.1.2, List.take_of_length_le (by rw [HH.out.1]; omega)]
  have hH := Zh (Env.heldS (A := [(w.heap.size, 69, bcl H)]) EL.out)
  have hbel := Zh EL.out.bel
  clear EL HA
  go_wp2
  go_ret
  exact ⟨⟨sg, cs, va, vc, rfl, hO, hH⟩, hbel.out⟩
open Go.RowKit
theorem Env.swapLast {D0 : Nat → Prop} {w W : World} {A : List Bx} {n o : Bx} {G : List Fct} (h : Env D0 w (n :: (A ++ [o])) G W) : Env D0 w (A ++ [n]) G W :=
 (h.perm (F' := o :: (A ++ [n])) ((List.Perm.cons n List.perm_append_comm).trans ((List.Perm.swap o n A).trans (List.Perm.cons o (List.perm_append_comm (l₁ := [n]) (l₂ := A)))))).drop
theorem Env.toLast {D0 : Nat → Prop} {w W : World} {A : List Bx} {n : Bx} {G : List Fct} (h : Env D0 w (n :: A) G W) : Env D0 w (A ++ [n]) G W := h.perm (List.perm_append_comm (l₁ := [n]) (l₂ := A))
def rX (h e f g k w : Int) : Int := IntKind.u32.wrap (IntKind.u32.wrap (IntKind.u32.wrap (IntKind.u32.wrap (h + bits BinOp.xor .u32 (bits BinOp.xor .u32 (rotI 6 e) (rotI 11 e)) (rotI 25 e)) + bits BinOp.xor .u32 (bits BinOp.and .u32 e f) (bits BinOp.and .u32 (bits BinOp.xor .u32 IntKind.u32.max e) g)) + k) + w)
def rY (a b c : Int) : Int := IntKind.u32.wrap (bits BinOp.xor .u32 (bits BinOp.xor .u32 (rotI 2 a) (rotI 13 a)) (rotI 22 a) + bits BinOp.xor .u32 (bits BinOp.xor .u32 (bits BinOp.and .u32 a b) (bits BinOp.and .u32 a c)) (bits BinOp.and .u32 b c))
theorem rnd_eq (a b c d e f g h k w : Int) : rnd k w [a, b, c, d, e, f, g, h] = [IntKind.u32.wrap (rX h e f g k w + rY a b c), a, b, c, IntKind.u32.wrap (d + rX h e f g k w), e, f, g] := by
 have h1 : (xx e f g h k w + yy a b c) % 4294967296 = IntKind.u32.wrap (rX h e f g k w + rY a b c) := by
  unfold xx yy rX rY
  simp only [IntKind.wrap_u32]
  omega
 have h2 : (d + xx e f g h k w) % 4294967296 = IntKind.u32.wrap (d + rX h e f g k w) := by
  unfold xx rX
  simp only [IntKind.wrap_u32]
  omega
 rw [rnd, h1, h2]
theorem OW.lit (g : Nat) (L : List Int) (hL : L.length ≤ 1000 := by simp) : OW [(g, 74, L.map wv)] (L.map wv) (.slice (some ⟨g, 0, none⟩) L.length L.length) L := by
 exact ⟨.inr ⟨g, L.length, rfl, rfl, Nat.le_refl _, by omega, by simp⟩, List.take_of_length_le (l := L.map wv) (i := L.length) (by simp)⟩
theorem addn_get : ∀ (i : Nat) (a b : List Int), (addn i a b).getD i 0 = a.getD i 0
 | 0, a, b => by rw [addn]; intro n s ss v vs h; cases h
 | i + 1, [], b => by simp [addn]
 | i + 1, s :: ss, [] => by simp [addn]
 | i + 1, s :: ss, v :: vs => by rw [addn, List.getD_cons_succ, List.getD_cons_succ]; exact addn_get i ss vs
theorem addn_set : ∀ (i : Nat) (a b : List Int), i < a.length → i < b.length → (addn i a b).set i ((a.getD i 0 + b.getD i 0) % 4294967296) = addn (i + 1) a b
 | 0, [], b, h, _ => by simp at h
 | 0, s :: ss, [], _, h => by simp at h
 | 0, s :: ss, v :: vs, _, _ => by simp [addn]
 | i + 1, [], b, h, _ => by simp at h
 | i + 1, s :: ss, [], _, h => by simp at h
 | i + 1, s :: ss, v :: vs, h1, h2 => by
   have h3 := addn_set i ss vs (by simpa using h1) (by simpa using h2)
   rw [show addn (i + 1) (s :: ss) (v :: vs) = ((s + v) % 4294967296) :: addn i ss vs from rfl, show addn (i + 1 + 1) (s :: ss) (v :: vs) = ((s + v) % 4294967296) :: addn (i + 1) ss vs from rfl, List.getD_cons_succ, List.getD_cons_succ, List.set_cons_succ, h3]
theorem Env.dropLast {D0 : Nat → Prop} {w W : World} {A : List Bx} {n : Bx} {G : List Fct} (h : Env D0 w (A ++ [n]) G W) : Env D0 w A G W := (h.perm (F' := n :: A) (List.perm_append_comm (l₁ := A) (l₂ := [n]))).drop
theorem rsum_c (l : List Nat) {a : Option Addr} {c : Nat} {w : World} (h0 : Fct.at w (fun _ => True) (.bs (.slice a l.length c) l)) (hm0 : l.length ≤ 50000) :
  Calls Tryz.prog 88 #[.slice a l.length c] w fun e w' => e = .returned (.agg (bcl (sumB l)).toArray) ∧ Below w.heap.size w w' := by
 have E0 := Zh ((Env.start (fun _ => True) w).arg (.bs (.slice a l.length c) l) h0)
 have hm := Zh hm0
 clear h0 hm0
 go_enter Tryz.func88, Tryz.ntmps88
 have E1 := Zh ((E0.out.push 69 Z32 w.heap.size rfl).push 74 (Hc.map wv) (w.heap.size + 1) (by simp))
 clear E0
 go_wp2_with fail
 refine rcon_c.mono ?_
 rintro e w1 ⟨⟨rfl, hK⟩, hb⟩
 have E2 : Hid (Env (fun _ => True) w [(w.heap.size + 1 + 1, 74, Kc.map wv), (w.heap.size + 1, 74, Hc.map wv), (w.heap.size, 69, Z32)] [.bs (.slice a l.length c) l] w1) := Zh ((E1.out.gotBox hb hK).cast (by simp))
 clear E1 hb hK
 go_wp2_with fail
 refine (rpad_c l (Bs.any (E2.out.fc 0 rfl)) hm.out).mono ?_
 rintro e w2 ⟨⟨va, pc, rfl, hP⟩, hb⟩
 obtain ⟨P, hPP⟩ : ∃ P, pad l = P := ⟨_, rfl⟩
 rw [hPP] at hP ⊢
 have HQ : Hid (P = pad l) := Zh hPP.symm
 obtain ⟨pb, po, rfl⟩ := Bs.addr hP.out (show P ≠ [] from fun h => by have h1 := pad_len l; rw [hPP, h] at h1; simp at h1)
 have HC := Zh (Bs.cap hP.out).2
 have E3 := Zh (E2.out.got (E2.out.below hb) (.bs (.slice (some ⟨pb, po, none⟩) P.length pc) P) (Bs.ge hP.out))
 clear hPP hP hb E2
 have HN : Hid (P.length = 64 * (P.length / 64) ∧ P.length ≤ 60000 ∧ B8 P) := Zh (by have h1 := pad_mod l; have h2 := pad_len l; have h3 := zrs_lt l.length; have h4 := hm.out; rw [← HQ.out] at h1 h2; exact ⟨by omega, by omega, (Bs.src (E3.out.fc 0 rfl)).2.2⟩)
 go_wp2_with fail
 go_loopg [6] (P.length / 64) (fun gk z6 wr => ∃ (m k : Nat), z6 = .int .i64 (m : Int) ∧ Hid (Env (fun _ => True) w [(w.heap.size + 1 + 1, 74, Kc.map wv), (w.heap.size + 1, 74, (stN P k).map wv), (w.heap.size, 69, Z32)] [.bs (.slice (some ⟨pb, po, none⟩) P.length pc) P, .bs (.slice a l.length c) l] wr) ∧ Hid ((k ≤ P.length / 64 ∧ m = 64 * k) ∧ gk = P.length / 64 - k))
 case atStart => exact ⟨0, 0, rfl, E3, Zh ⟨⟨Nat.zero_le _, rfl⟩, rfl⟩⟩
 case round =>
  clear E3
  obtain ⟨m, k, rfl, EL, HA⟩ := hrel
  by_cases hy : k = P.length / 64
  rotate_left
  ·have hml : m + 64 ≤ P.length := by have := HA.out.1; have := HN.out.1; omega
   have t1 : decide ((m : Int) < (P.length : Int)) = true := decide_eq_true (by omega)
   have t1' : decide (m < P.length) = true := decide_eq_true (by omega)
   obtain ⟨q, hq⟩ : ∃ q, q = m + 64 := ⟨_, rfl⟩
   have u1 : wrap64 ((m : Int) + 64) = (q : Int) := by have := HN.out; unfold wrap64; omega
   have v1 : (m : Int) ≤ (q : Int) := by omega
   have v2 : (q : Int) ≤ (pc : Int) := by have := HC.out; omega
   have v3 : m ≤ q := by omega
   have v4 : q ≤ pc := by have := HC.out; omega
   have v5 : ¬ pc = m := by have := HC.out; omega
   have v6 : (pc = m) = False := eq_false v5
   have v7 : q - m = 64 := by omega
   have HM := Zh (And.intro hml (And.intro hq hy))
   clear hml hq hy
   go_wp2_with fail
   refine (words_c ((P.drop m).take 64) (by have := HM.out.1; rw [List.length_take, List.length_drop]; omega) (fun u hu => HN.out.2.2 u (List.mem_of_mem_drop (List.mem_of_mem_take hu))) (gBy.any (gBy.sub (Bs.by (EL.out.fc 0 rfl)) m 64))).mono ?_
   rintro e w3 ⟨⟨gw, cw, vw, rfl, hW, hX⟩, hb⟩
   obtain ⟨ws, hws⟩ : ∃ ws, ext ((P.drop m).take 64) 48 = ws := ⟨_, rfl⟩
   rw [hws] at hW
   have HW := Zh (And.intro hws (show ws.length = 64 by rw [← hws, ext_len]))
   have E4 := Zh (EL.out.gotBox hb hX.out)
   clear EL hb hX hws u1 v1 v2 v3 v4 v5 v6 v7 t1 t1'
   have E5 := Zh ((E4.out.push 74 [] w3.heap.size rfl).toLast)
   clear E4
   go_wp2_with (at_builtin; refine wpl_appW (news := stN P k) (A := [(gw, 74, cw), (w.heap.size + 1 + 1, 74, Kc.map wv), (w.heap.size + 1, 74, (stN P k).map wv), (w.heap.size, 69, Z32)]) rfl _ _ rfl E5.out (OW.empty _) rfl rfl (SrcN.words (E5.out.bx 2 rfl) (by rw [stN_len])) (by simp only [List.length_nil]; omega) ?_)
   intro sv cv lv va vc w4 hlv hV E6
   clear E5
   obtain ⟨s0, s1, s2, s3, s4, s5, s6, s7, hst⟩ := eight (stN_len P k)
   have HS : Hid (stN P k = [s0, s1, s2, s3, s4, s5, s6, s7]) := Zh hst
   obtain rfl : lv = [s0, s1, s2, s3, s4, s5, s6, s7] := hlv.out.trans ((List.nil_append _).trans hst)
   obtain ⟨gv, rfl, rfl, _⟩ := hV.out.open (by simp)
   clear hst hlv
   go_wp2_with fail
   rename World => wz
   go_loopg [8, 9] (64) (fun gk z8 z9 wr => ∃ (gv vc t : Nat) (cv : List Value) (xa xb xc xd xe xf xg xh : Int), z8 = .slice (some ⟨gv, 0, none⟩) 8 vc ∧ z9 = .int .i64 (t : Int) ∧ Hid (Env (fun _ => True) w ([(gw, 74, cw), (w.heap.size + 1 + 1, 74, Kc.map wv), (w.heap.size + 1, 74, (stN P k).map wv), (w.heap.size, 69, Z32)] ++ [(gv, 74, cv)]) [.bs (.slice (some ⟨pb, po, none⟩) P.length pc) P, .bs (.slice a l.length c) l] wr) ∧ Hid (OW [(gv, 74, cv)] cv (.slice (some ⟨gv, 0, none⟩) 8 vc) [xa, xb, xc, xd, xe, xf, xg, xh]) ∧ Hid ((t ≤ 64 ∧ rds ws t [s0, s1, s2, s3, s4, s5, s6, s7] = [xa, xb, xc, xd, xe, xf, xg, xh]) ∧ gk = 64 - t))
   case atStart => exact ⟨gv, vc, 0, cv, s0, s1, s2, s3, s4, s5, s6, s7, rfl, rfl, E6, hV, Zh ⟨⟨Nat.zero_le _, rfl⟩, rfl⟩⟩
   case round =>
    clear E6 hV
    obtain ⟨gv, vc, t, cv, xa, xb, xc, xd, xe, xf, xg, xh, rfl, rfl, EL, hV, HT⟩ := hrel
    by_cases hw : t = 64
    rotate_left
    ·have ht : t < 64 := by have := HT.out; omega
     have t2 : decide ((t : Int) < 64) = true := decide_eq_true (by omega)
     have t2' : decide (t < 64) = true := decide_eq_true ht
     have t3 : (t : Int) < 64 := by omega
     obtain ⟨kt, hkt⟩ : ∃ x, Kc.getD t 0 = x := ⟨_, rfl⟩
     obtain ⟨wt, hwt⟩ : ∃ x, ws.getD t 0 = x := ⟨_, rfl⟩
     go_wp2_with fail
     have EV := Zh EL.out.drew
     clear EL
     have c0 := (hV.out.cell (EV.out.bx 4 rfl) 0 (by simp) : _ = some (Value.int .u32 xa))
     have c1 := (hV.out.cell (EV.out.bx 4 rfl) 1 (by simp) : _ = some (Value.int .u32 xb))
     have c2 := (hV.out.cell (EV.out.bx 4 rfl) 2 (by simp) : _ = some (Value.int .u32 xc))
     have c3 := (hV.out.cell (EV.out.bx 4 rfl) 3 (by simp) : _ = some (Value.int .u32 xd))
     have c4 := (hV.out.cell (EV.out.bx 4 rfl) 4 (by simp) : _ = some (Value.int .u32 xe))
     have c5 := (hV.out.cell (EV.out.bx 4 rfl) 5 (by simp) : _ = some (Value.int .u32 xf))
     have c6 := (hV.out.cell (EV.out.bx 4 rfl) 6 (by simp) : _ = some (Value.int .u32 xg))
     have c7 := (hV.out.cell (EV.out.bx 4 rfl) 7 (by simp) : _ = some (Value.int .u32 xh))
     have ck := (EV.out.bx 1 rfl).cell t (wv_get (ws := Kc) (by exact ht))
     have cx := hW.out.cell (EV.out.bx 0 rfl) t (by rw [HW.out.2]; exact ht)
     rw [hkt] at ck
     rw [hwt] at cx
     have HK := Zh (And.intro ht (And.intro hkt hwt))
     clear hkt hwt ht hw
     have KEEP : Hid (∀ (W w' : World), Below W.heap.size W w' → (W.cell? ⟨gv, 0, none⟩ = some (.int .u32 xa) ∧ W.cell? ⟨gv, 1, none⟩ = some (.int .u32 xb) ∧ W.cell? ⟨gv, 2, none⟩ = some (.int .u32 xc) ∧ W.cell? ⟨gv, 3, none⟩ = some (.int .u32 xd) ∧ W.cell? ⟨gv, 4, none⟩ = some (.int .u32 xe) ∧ W.cell? ⟨gv, 5, none⟩ = some (.int .u32 xf) ∧ W.cell? ⟨gv, 6, none⟩ = some (.int .u32 xg) ∧ W.cell? ⟨gv, 7, none⟩ = some (.int .u32 xh) ∧ W.cell? ⟨w.heap.size + 1 + 1, t, none⟩ = some (.int .u32 kt) ∧ W.cell? ⟨gw, t, none⟩ = some (.int .u32 wt)) → w'.cell? ⟨gv, 0, none⟩ = some (.int .u32 xa) ∧ w'.cell? ⟨gv, 1, none⟩ = some (.int .u32 xb) ∧ w'.cell? ⟨gv, 2, none⟩ = some (.int .u32 xc) ∧ w'.cell? ⟨gv, 3, none⟩ = some (.int .u32 xd) ∧ w'.cell? ⟨gv, 4, none⟩ = some (.int .u32 xe) ∧ w'.cell? ⟨gv, 5, none⟩ = some (.int .u32 xf) ∧ w'.cell? ⟨gv, 6, none⟩ = some (.int .u32 xg) ∧ w'.cell? ⟨gv, 7, none⟩ = some (.int .u32 xh) ∧ w'.cell? ⟨w.heap.size + 1 + 1, t, none⟩ = some (.int .u32 kt) ∧ w'.cell? ⟨gw, t, none⟩ = some (.int .u32 wt)) := Zh (fun W w' hb ⟨h0, h1, h2, h3, h4, h5, h6, h7, h8, h9⟩ => ⟨(hb.cell (World.block_lt_of_cell? _ _ h0)).trans h0, (hb.cell (World.block_lt_of_cell? _ _ h1)).trans h1, (hb.cell (World.block_lt_of_cell? _ _ h2)).trans h2, (hb.cell (World.block_lt_of_cell? _ _ h3)).trans h3, (hb.cell (World.block_lt_of_cell? _ _ h4)).trans h4, (hb.cell (World.block_lt_of_cell? _ _ h5)).trans h5, (hb.cell (World.block_lt_of_cell? _ _ h6)).trans h6, (hb.cell (World.block_lt_of_cell? _ _ h7)).trans h7, (hb.cell (World.block_lt_of_cell? _ _ h8)).trans h8, (hb.cell (World.block_lt_of_cell? _ _ h9)).trans h9⟩)
     refine wp_regionU (S := fun w' => w'.cell? ⟨gv, 0, none⟩ = some (.int .u32 xa) ∧ w'.cell? ⟨gv, 1, none⟩ = some (.int .u32 xb) ∧ w'.cell? ⟨gv, 2, none⟩ = some (.int .u32 xc) ∧ w'.cell? ⟨gv, 3, none⟩ = some (.int .u32 xd) ∧ w'.cell? ⟨gv, 4, none⟩ = some (.int .u32 xe) ∧ w'.cell? ⟨gv, 5, none⟩ = some (.int .u32 xf) ∧ w'.cell? ⟨gv, 6, none⟩ = some (.int .u32 xg) ∧ w'.cell? ⟨gv, 7, none⟩ = some (.int .u32 xh) ∧ w'.cell? ⟨w.heap.size + 1 + 1, t, none⟩ = some (.int .u32 kt) ∧ w'.cell? ⟨gw, t, none⟩ = some (.int .u32 wt)) [] (by kernel_rfl) ⟨c0, c1, c2, c3, c4, c5, c6, c7, ck, cx⟩ (fun hHeld => ?_)
     clear c0 c1 c2 c3 c4 c5 c6 c7 ck cx
     generalize wr.drew = wd at *
     refine uPl [0, 1, 2, 3, 4, 5, 7, 8, 9, 12, 13, 14, 18, 19, 20, 21, 22, 23, 24, 25, 26, 27, 28, 29, 30, 31, 32, 33, 35, 36, 37, 38, 40, 41, 42, 43] ?_
     iterate 36 (refine uTl (v := ?_) ?_ ?_; rotate_left; (focus (intro wS hSw; (try dsimp only at hSw); go_simp; try with_reducible rfl)); try simp only [Act.put, pq0, pq1, pq2])
     refine Pl.z ?_
     refine uRd 6 (fun KK hKK => ?_)
     go_simp
     refine (rright_c _ _ rfl).mono ?_
     rintro e wc121 ⟨rfl, hb⟩
     (try dsimp only)
     have EV121 := Zh (EV.out.below hb)
     have hS2 := KEEP.out _ _ hb hHeld
     clear hHeld hb EV
     refine hKK.out _ _ hS2 (fun hHeld => ?_)
     clear hKK KK hS2
     try simp only [Act.put, pq0, pq1, pq2]
     refine uRd 10 (fun KK hKK => ?_)
     go_simp
     refine (rright_c _ _ rfl).mono ?_
     rintro e wc122 ⟨rfl, hb⟩
     (try dsimp only)
     have EV122 := Zh (EV121.out.below hb)
     have hS2 := KEEP.out _ _ hb hHeld
     clear hHeld hb EV121
     refine hKK.out _ _ hS2 (fun hHeld => ?_)
     clear hKK KK hS2
     try simp only [Act.put, pq0, pq1, pq2]
     refine uTk (i := 11) (some 49) (v := ?_) ?_ ?_
     rotate_left
     ·(intro wS hSw; (try dsimp only at hSw); go_simp; try with_reducible rfl)
     try simp only [Act.put, pq0, pq1, pq2]
     refine uRd 15 (fun KK hKK => ?_)
     go_simp
     refine (rright_c _ _ rfl).mono ?_
     rintro e wc123 ⟨rfl, hb⟩
     (try dsimp only)
     have EV123 := Zh (EV122.out.below hb)
     have hS2 := KEEP.out _ _ hb hHeld
     clear hHeld hb EV122
     refine hKK.out _ _ hS2 (fun hHeld => ?_)
     clear hKK KK hS2
     try simp only [Act.put, pq0, pq1, pq2]
     refine uPl [16, 17, 34, 39, 44, 45] ?_
     iterate 6 (refine uTl (v := ?_) ?_ ?_; rotate_left; (focus (intro wS hSw; (try dsimp only at hSw); go_simp; try with_reducible rfl)); try simp only [Act.put, pq0, pq1, pq2])
     refine Pl.z ?_
     refine uDone (by kernel_rfl) ?_ _
     clear hHeld KEEP
     go_wp2_with fail
     have EX := Zh EV123.out.drew
     clear EV123
     have c0 := (hV.out.cell (EX.out.bx 4 rfl) 0 (by simp) : _ = some (Value.int .u32 xa))
     have c1 := (hV.out.cell (EX.out.bx 4 rfl) 1 (by simp) : _ = some (Value.int .u32 xb))
     have c2 := (hV.out.cell (EX.out.bx 4 rfl) 2 (by simp) : _ = some (Value.int .u32 xc))
     have c3 := (hV.out.cell (EX.out.bx 4 rfl) 3 (by simp) : _ = some (Value.int .u32 xd))
     have c4 := (hV.out.cell (EX.out.bx 4 rfl) 4 (by simp) : _ = some (Value.int .u32 xe))
     have c5 := (hV.out.cell (EX.out.bx 4 rfl) 5 (by simp) : _ = some (Value.int .u32 xf))
     have c6 := (hV.out.cell (EX.out.bx 4 rfl) 6 (by simp) : _ = some (Value.int .u32 xg))
     have c7 := (hV.out.cell (EX.out.bx 4 rfl) 7 (by simp) : _ = some (Value.int .u32 xh))
     have KEEP : Hid (∀ (W w' : World), Below W.heap.size W w' → (W.cell? ⟨gv, 0, none⟩ = some (.int .u32 xa) ∧ W.cell? ⟨gv, 1, none⟩ = some (.int .u32 xb) ∧ W.cell? ⟨gv, 2, none⟩ = some (.int .u32 xc) ∧ W.cell? ⟨gv, 3, none⟩ = some (.int .u32 xd) ∧ W.cell? ⟨gv, 4, none⟩ = some (.int .u32 xe) ∧ W.cell? ⟨gv, 5, none⟩ = some (.int .u32 xf) ∧ W.cell? ⟨gv, 6, none⟩ = some (.int .u32 xg) ∧ W.cell? ⟨gv, 7, none⟩ = some (.int .u32 xh)) → w'.cell? ⟨gv, 0, none⟩ = some (.int .u32 xa) ∧ w'.cell? ⟨gv, 1, none⟩ = some (.int .u32 xb) ∧ w'.cell? ⟨gv, 2, none⟩ = some (.int .u32 xc) ∧ w'.cell? ⟨gv, 3, none⟩ = some (.int .u32 xd) ∧ w'.cell? ⟨gv, 4, none⟩ = some (.int .u32 xe) ∧ w'.cell? ⟨gv, 5, none⟩ = some (.int .u32 xf) ∧ w'.cell? ⟨gv, 6, none⟩ = some (.int .u32 xg) ∧ w'.cell? ⟨gv, 7, none⟩ = some (.int .u32 xh)) := Zh (fun W w' hb ⟨h0, h1, h2, h3, h4, h5, h6, h7⟩ => ⟨(hb.cell (World.block_lt_of_cell? _ _ h0)).trans h0, (hb.cell (World.block_lt_of_cell? _ _ h1)).trans h1, (hb.cell (World.block_lt_of_cell? _ _ h2)).trans h2, (hb.cell (World.block_lt_of_cell? _ _ h3)).trans h3, (hb.cell (World.block_lt_of_cell? _ _ h4)).trans h4, (hb.cell (World.block_lt_of_cell? _ _ h5)).trans h5, (hb.cell (World.block_lt_of_cell? _ _ h6)).trans h6, (hb.cell (World.block_lt_of_cell? _ _ h7)).trans h7⟩)
     refine wp_regionU (S := fun w' => w'.cell? ⟨gv, 0, none⟩ = some (.int .u32 xa) ∧ w'.cell? ⟨gv, 1, none⟩ = some (.int .u32 xb) ∧ w'.cell? ⟨gv, 2, none⟩ = some (.int .u32 xc) ∧ w'.cell? ⟨gv, 3, none⟩ = some (.int .u32 xd) ∧ w'.cell? ⟨gv, 4, none⟩ = some (.int .u32 xe) ∧ w'.cell? ⟨gv, 5, none⟩ = some (.int .u32 xf) ∧ w'.cell? ⟨gv, 6, none⟩ = some (.int .u32 xg) ∧ w'.cell? ⟨gv, 7, none⟩ = some (.int .u32 xh)) [] (by kernel_rfl) ⟨c0, c1, c2, c3, c4, c5, c6, c7⟩ (fun hHeld => ?_)
     clear c0 c1 c2 c3 c4 c5 c6 c7
     generalize wc123.drew = wd2 at *
     refine uPl [0, 1, 2, 4, 5, 6, 9, 10, 11, 14, 15, 16, 17, 18, 19, 20, 21, 22, 23, 24, 25, 26, 27, 28, 29, 30, 31, 32, 33, 34, 35, 36] ?_
     iterate 32 (refine uTl (v := ?_) ?_ ?_; rotate_left; (focus (intro wS hSw; (try dsimp only at hSw); go_simp; try with_reducible rfl)); try simp only [Act.put, pq0, pq1, pq2])
     refine Pl.z ?_
     refine uRd 3 (fun KK hKK => ?_)
     go_simp
     refine (rright_c _ _ rfl).mono ?_
     rintro e wc131 ⟨rfl, hb⟩
     (try dsimp only)
     have EX131 := Zh (EX.out.below hb)
     have hS2 := KEEP.out _ _ hb hHeld
     clear hHeld hb EX
     refine hKK.out _ _ hS2 (fun hHeld => ?_)
     clear hKK KK hS2
     try simp only [Act.put, pq0, pq1, pq2]
     refine uRd 7 (fun KK hKK => ?_)
     go_simp
     refine (rright_c _ _ rfl).mono ?_
     rintro e wc132 ⟨rfl, hb⟩
     (try dsimp only)
     have EX132 := Zh (EX131.out.below hb)
     have hS2 := KEEP.out _ _ hb hHeld
     clear hHeld hb EX131
     refine hKK.out _ _ hS2 (fun hHeld => ?_)
     clear hKK KK hS2
     try simp only [Act.put, pq0, pq1, pq2]
     refine uTk (i := 8) (some 91) (v := ?_) ?_ ?_
     rotate_left
     ·(intro wS hSw; (try dsimp only at hSw); go_simp; try with_reducible rfl)
     try simp only [Act.put, pq0, pq1, pq2]
     refine uRd 12 (fun KK hKK => ?_)
     go_simp
     refine (rright_c _ _ rfl).mono ?_
     rintro e wc133 ⟨rfl, hb⟩
     (try dsimp only)
     have EX133 := Zh (EX132.out.below hb)
     have hS2 := KEEP.out _ _ hb hHeld
     clear hHeld hb EX132
     refine hKK.out _ _ hS2 (fun hHeld => ?_)
     clear hKK KK hS2
     try simp only [Act.put, pq0, pq1, pq2]
     refine uPl [13, 37, 38] ?_
     iterate 3 (refine uTl (v := ?_) ?_ ?_; rotate_left; (focus (intro wS hSw; (try dsimp only at hSw); go_simp; try with_reducible rfl)); try simp only [Act.put, pq0, pq1, pq2])
     refine Pl.z ?_
     refine uDone (by kernel_rfl) ?_ _
     clear hHeld KEEP
     go_wp2_with fail
     have EY := Zh EX133.out.drew
     clear EX133
     have c0 := (hV.out.cell (EY.out.bx 4 rfl) 0 (by simp) : _ = some (Value.int .u32 xa))
     have c1 := (hV.out.cell (EY.out.bx 4 rfl) 1 (by simp) : _ = some (Value.int .u32 xb))
     have c2 := (hV.out.cell (EY.out.bx 4 rfl) 2 (by simp) : _ = some (Value.int .u32 xc))
     have c3 := (hV.out.cell (EY.out.bx 4 rfl) 3 (by simp) : _ = some (Value.int .u32 xd))
     have c4 := (hV.out.cell (EY.out.bx 4 rfl) 4 (by simp) : _ = some (Value.int .u32 xe))
     have c5 := (hV.out.cell (EY.out.bx 4 rfl) 5 (by simp) : _ = some (Value.int .u32 xf))
     have c6 := (hV.out.cell (EY.out.bx 4 rfl) 6 (by simp) : _ = some (Value.int .u32 xg))
     have c7 := (hV.out.cell (EY.out.bx 4 rfl) 7 (by simp) : _ = some (Value.int .u32 xh))
     refine wp_regionU (S := fun w' => w'.cell? ⟨gv, 0, none⟩ = some (.int .u32 xa) ∧ w'.cell? ⟨gv, 1, none⟩ = some (.int .u32 xb) ∧ w'.cell? ⟨gv, 2, none⟩ = some (.int .u32 xc) ∧ w'.cell? ⟨gv, 3, none⟩ = some (.int .u32 xd) ∧ w'.cell? ⟨gv, 4, none⟩ = some (.int .u32 xe) ∧ w'.cell? ⟨gv, 5, none⟩ = some (.int .u32 xf) ∧ w'.cell? ⟨gv, 6, none⟩ = some (.int .u32 xg) ∧ w'.cell? ⟨gv, 7, none⟩ = some (.int .u32 xh)) [] (by kernel_rfl) ⟨c0, c1, c2, c3, c4, c5, c6, c7⟩ (fun hHeld => ?_)
     clear c0 c1 c2 c3 c4 c5 c6 c7
     generalize wc133.drew = wd3 at *
     refine uPl [0, 1, 2, 3, 4, 5, 6, 7, 8, 9, 10, 11, 12, 13, 14, 15, 16, 17, 18, 19, 20, 21, 22, 23, 24, 25] ?_
     iterate 26 (refine uTl (v := ?_) ?_ ?_; rotate_left; (focus (intro wS hSw; (try dsimp only at hSw); go_simp; try with_reducible rfl)); try simp only [Act.put, pq0, pq1, pq2])
     refine Pl.z ?_
     have EP : Hid (Env (fun _ => True) w ((wd3.heap.size, 74, [IntKind.u32.wrap (rX xh xe xf xg kt wt + rY xa xb xc), xa, xb, xc, IntKind.u32.wrap (xd + rX xh xe xf xg kt wt), xe, xf, xg].map wv) :: ([(gw, 74, cw), (w.heap.size + 1 + 1, 74, Kc.map wv), (w.heap.size + 1, 74, (stN P k).map wv), (w.heap.size, 69, Z32)] ++ [(gv, 74, cv)])) [.bs (.slice (some ⟨pb, po, none⟩) P.length pc) P, .bs (.slice a l.length c) l] _) := Zh (EY.out.push 74 ([IntKind.u32.wrap (rX xh xe xf xg kt wt + rY xa xb xc), xa, xb, xc, IntKind.u32.wrap (xd + rX xh xe xf xg kt wt), xe, xf, xg].map wv) wd3.heap.size rfl)
     refine uRd 26 (fun KK hKK => ?_)
     go_simp
     change KK _ (wd3.alloc (.cells ([IntKind.u32.wrap (rX xh xe xf xg kt wt + rY xa xb xc), xa, xb, xc, IntKind.u32.wrap (xd + rX xh xe xf xg kt wt), xe, xf, xg].map wv).toArray 74))
     refine hKK.out _ _ ⟨(hV.out.cell (EP.out.bx 5 rfl) 0 (by simp) : _ = some (Value.int .u32 xa)), (hV.out.cell (EP.out.bx 5 rfl) 1 (by simp) : _ = some (Value.int .u32 xb)), (hV.out.cell (EP.out.bx 5 rfl) 2 (by simp) : _ = some (Value.int .u32 xc)), (hV.out.cell (EP.out.bx 5 rfl) 3 (by simp) : _ = some (Value.int .u32 xd)), (hV.out.cell (EP.out.bx 5 rfl) 4 (by simp) : _ = some (Value.int .u32 xe)), (hV.out.cell (EP.out.bx 5 rfl) 5 (by simp) : _ = some (Value.int .u32 xf)), (hV.out.cell (EP.out.bx 5 rfl) 6 (by simp) : _ = some (Value.int .u32 xg)), (hV.out.cell (EP.out.bx 5 rfl) 7 (by simp) : _ = some (Value.int .u32 xh))⟩ (fun hHeld => ?_)
     clear hKK KK
     try simp only [Act.put, pq0, pq1, pq2]
     have EQ := Zh EP.out.swapLast
     clear EP EY
     refine uTk (i := 27) (some 8) (v := ?_) ?_ ?_
     rotate_left
     ·(intro wS hSw; clear hSw; go_simp; try with_reducible rfl)
     try simp only [Act.put, pq0, pq1, pq2]
     refine uDone (by kernel_rfl) ?_ _
     clear hHeld t2 t2' t3
     have u7 : wrap64 ((t : Int) + 1) = ((t + 1 : Nat) : Int) := by have := HK.out.1; unfold wrap64; omega
     have HR : Hid (rds ws (t + 1) [s0, s1, s2, s3, s4, s5, s6, s7] = [IntKind.u32.wrap (rX xh xe xf xg kt wt + rY xa xb xc), xa, xb, xc, IntKind.u32.wrap (xd + rX xh xe xf xg kt wt), xe, xf, xg]) := Zh (by rw [rds, HK.out.2.1, HK.out.2.2, HT.out.1.2, rnd_eq])
     generalize World.alloc wd3 _ = wn at *
     go_wp2
     go_roundg (64 - (t + 1))
     case rel => exact ⟨wd3.heap.size, 8, t + 1, [IntKind.u32.wrap (rX xh xe xf xg kt wt + rY xa xb xc), xa, xb, xc, IntKind.u32.wrap (xd + rX xh xe xf xg kt wt), xe, xf, xg].map wv, _, _, _, _, _, _, _, _, rfl, by first | rfl | rw [u7], EQ, Zh (OW.lit _ _), Zh ⟨⟨by have := HK.out.1; omega, HR.out⟩, rfl⟩⟩
     case measure => exact by have := HK.out.1; have := HT.out; omega
    subst hw
    have t2 : decide ((64 : Int) < 64) = false := decide_eq_false (by omega)
    have HR : Hid (stN P (k + 1) = addn 8 [s0, s1, s2, s3, s4, s5, s6, s7] [xa, xb, xc, xd, xe, xf, xg, xh]) := Zh (by rw [stN, HS.out, mixS, ← HA.out.1.2, HW.out.1, HT.out.1.2])
    have EI : Hid (Env (fun _ => True) w ([(gw, 74, cw), (w.heap.size + 1 + 1, 74, Kc.map wv), (w.heap.size + 1, 74, (addn 0 [s0, s1, s2, s3, s4, s5, s6, s7] [xa, xb, xc, xd, xe, xf, xg, xh]).map wv), (w.heap.size, 69, Z32)] ++ [(gv, 74, cv)]) [.bs (.slice (some ⟨pb, po, none⟩) P.length pc) P, .bs (.slice a l.length c) l] _) := Zh (EL.out.cast (by rw [HS.out]; rfl))
    clear EL HT
    go_wp2_with fail
    rename World => wi
    go_loopg [12] (8) (fun gk z12 wr => ∃ (i : Nat), z12 = .int .i64 (i : Int) ∧ Hid (Env (fun _ => True) w ([(gw, 74, cw), (w.heap.size + 1 + 1, 74, Kc.map wv), (w.heap.size + 1, 74, (addn i [s0, s1, s2, s3, s4, s5, s6, s7] [xa, xb, xc, xd, xe, xf, xg, xh]).map wv), (w.heap.size, 69, Z32)] ++ [(gv, 74, cv)]) [.bs (.slice (some ⟨pb, po, none⟩) P.length pc) P, .bs (.slice a l.length c) l] wr) ∧ Hid (i ≤ 8 ∧ gk = 8 - i))
    case atStart => exact ⟨0, rfl, EI, Zh ⟨Nat.zero_le _, rfl⟩⟩
    case round =>
     clear EI
     obtain ⟨i, rfl, EL, HI⟩ := hrel
     by_cases hz : i = 8
     rotate_left
     ·have hi : i < 8 := by have := HI.out; omega
      have t4 : decide ((i : Int) < 8) = true := decide_eq_true (by omega)
      have t4' : decide (i < 8) = true := decide_eq_true hi
      have t5 : (i : Int) < 8 := by omega
      obtain ⟨di, hdi⟩ : ∃ x, [s0, s1, s2, s3, s4, s5, s6, s7].getD i 0 = x := ⟨_, rfl⟩
      obtain ⟨vi, hvi⟩ : ∃ x, [xa, xb, xc, xd, xe, xf, xg, xh].getD i 0 = x := ⟨_, rfl⟩
      go_wp2_with fail
      have EZ := Zh EL.out.drew
      clear EL
      have cd : _ = some (Value.int .u32 di) := (EZ.out.bx 2 rfl).cell i (by rw [wv_get (by rw [addn_len]; exact hi), addn_get, hdi])
      have cx := hV.out.cell (EZ.out.bx 4 rfl) i hi
      rw [hvi] at cx
      have HD := Zh (And.intro hi (And.intro hdi hvi))
      clear hdi hvi hi hz
      refine wp_regionU (S := fun w' => w'.cell? ⟨w.heap.size + 1, i, none⟩ = some (.int .u32 di) ∧ w'.cell? ⟨gv, i, none⟩ = some (.int .u32 vi)) [12] (by kernel_rfl) ⟨cd, cx⟩ (fun hHeld => ?_)
      clear cd cx
      generalize wr.drew = wd at *
      refine uPl [0, 1, 2, 3, 4, 5, 6, 7, 8, 9, 10, 11] ?_
      iterate 12 (refine uTl (v := ?_) ?_ ?_; rotate_left; (focus (intro wS hSw; (try dsimp only at hSw); go_simp; try with_reducible rfl)); try simp only [Act.put, pq0, pq1, pq2])
      refine Pl.z ?_
      refine uReady (rs := [12]) (by kernel_rfl) (by simp) ?_
      refine ReadyU.consU (by kernel_rfl) rfl (fun KK hKK => ?_) ReadyU.nil
      have cf := (EZ.out.bx 2 rfl).frozen i
      have u9 : IntKind.u32.wrap (di + vi) = (di + vi) % 4294967296 := IntKind.wrap_u32 _
      go_simp
      have EN : Hid (Env (fun _ => True) w ([(gw, 74, cw), (w.heap.size + 1 + 1, 74, Kc.map wv), (w.heap.size + 1, 74, (addn (i + 1) [s0, s1, s2, s3, s4, s5, s6, s7] [xa, xb, xc, xd, xe, xf, xg, xh]).map wv), (w.heap.size, 69, Z32)] ++ [(gv, 74, cv)]) [.bs (.slice (some ⟨pb, po, none⟩) P.length pc) P, .bs (.slice a l.length c) l] _) := Zh ((EZ.out.set 2 i (.int .u32 ((di + vi) % 4294967296)) rfl).cast (by rw [← addn_set i [s0, s1, s2, s3, s4, s5, s6, s7] [xa, xb, xc, xd, xe, xf, xg, xh] HD.out.1 HD.out.1, List.map_set, HD.out.2.1, HD.out.2.2]; rfl))
      refine hKK.out _ _ ?_
      clear hKK KK hHeld EZ cf u9
      try simp only [Act.put, pq0, pq1, pq2]
      refine uDone (by kernel_rfl) ?_ _
      generalize World.setCell _ _ _ = wn at *
      have u10 : wrap64 ((i : Int) + 1) = ((i + 1 : Nat) : Int) := by have := HD.out.1; unfold wrap64; omega
      clear t4 t4' t5
      go_wp2
      go_roundg (8 - (i + 1))
      case rel => exact ⟨i + 1, by first | rfl | rw [u10], EN, Zh ⟨by have := HD.out.1; omega, rfl⟩⟩
      case measure => exact by have := HD.out.1; have := HI.out; omega
     subst hz
     have t4 : decide ((8 : Int) < 8) = false := decide_eq_false (by omega)
     have EM : Hid (Env (fun _ => True) w [(w.heap.size + 1 + 1, 74, Kc.map wv), (w.heap.size + 1, 74, (stN P (k + 1)).map wv), (w.heap.size, 69, Z32)] [.bs (.slice (some ⟨pb, po, none⟩) P.length pc) P, .bs (.slice a l.length c) l] _) := Zh ((EL.out.dropLast.drop).cast (by rw [HR.out]))
     have HKK := Zh (And.intro HA.out HM.out)
     clear EL HI HR hV HW hW
     go_wp2
     have u1 : wrap64 ((m : Int) + 64) = (q : Int) := by have := HN.out; have := HM.out; unfold wrap64; omega
     go_roundg (P.length / 64 - (k + 1))
     case rel => exact ⟨q, k + 1, by first | rfl | rw [u1], EM, Zh ⟨⟨by have := HM.out; have := HA.out; omega, by have := HM.out; have := HA.out; omega⟩, rfl⟩⟩
     case measure => exact by have := HM.out; have := HA.out; omega
  have t1 : decide ((m : Int) < (P.length : Int)) = false := decide_eq_false (by have := HA.out; have := HN.out; omega)
  have t1' : decide (m < P.length) = false := decide_eq_false (by have := HA.out; have := HN.out; omega)
  have HK : Hid (stN P k = stN (pad l) ((pad l).length / 64)) := Zh (by rw [← HQ.out, hy])
  clear HA HN HC hy
  have EO : Hid (Env (fun _ => True) w [(wr.heap.size, 69, oc (stN P k) 0), (w.heap.size + 1 + 1, 74, Kc.map wv), (w.heap.size + 1, 74, (stN P k).map wv), (w.heap.size, 69, Z32)] [.bs (.slice (some ⟨pb, po, none⟩) P.length pc) P, .bs (.slice a l.length c) l] _) := Zh (EL.out.push 69 Z32 wr.heap.size rfl)
  clear EL
  go_wp2_with fail
  rename World => w0
  go_loopg [14] (32) (fun gk z14 wr => ∃ (i : Nat), z14 = .int .i64 (i : Int) ∧ Hid (Env (fun _ => True) w [(w0.heap.size, 69, oc (stN P k) i), (w.heap.size + 1 + 1, 74, Kc.map wv), (w.heap.size + 1, 74, (stN P k).map wv), (w.heap.size, 69, Z32)] [.bs (.slice (some ⟨pb, po, none⟩) P.length pc) P, .bs (.slice a l.length c) l] wr) ∧ Hid (i ≤ 32 ∧ gk = 32 - i))
  case atStart => exact ⟨0, rfl, EO, Zh ⟨Nat.zero_le _, rfl⟩⟩
  case round =>
   clear EO
   obtain ⟨i, rfl, EL, HI⟩ := hrel
   by_cases hz : i = 32
   rotate_left
   ·have hi : i < 32 := by have := HI.out; omega
    have t4 : decide ((i : Int) < 32) = true := decide_eq_true (by omega)
    have t4' : decide (i < 32) = true := decide_eq_true hi
    have t5 : (i : Int) < 32 := by omega
    have HJ := Zh hi
    obtain ⟨j, hj⟩ : ∃ j, j = i / 4 := ⟨_, rfl⟩
    obtain ⟨x, hx⟩ : ∃ x, (stN P k).getD j 0 = x := ⟨_, rfl⟩
    have c1 : _ = some (Value.int .u32 x) := (EL.out.bx 2 rfl).cell j (by rw [wv_get (by rw [stN_len]; omega), hx])
    have c2 := (EL.out.bx 0 rfl).cell i (oc_get _ _ hi)
    have c3 := (EL.out.bx 0 rfl).frozen i
    have HX := Zh (And.intro hx hj)
    have d1 : (i : Int) / 4 = (j : Int) := by omega
    have y1 : IntKind.i64.wrap (j : Int) = (j : Int) := by rw [IntKind.wrap_i64]; omega
    have y2 : wrap64 (j : Int) = (j : Int) := by unfold wrap64; omega
    have d3 : j < 8 := by omega
    have d4 : (j : Int) < 8 := by omega
    have u10 : wrap64 ((i : Int) + 1) = ((i + 1 : Nat) : Int) := by unfold wrap64; omega
    have hr4 : i % 4 = 0 ∨ i % 4 = 1 ∨ i % 4 = 2 ∨ i % 4 = 3 := by omega
    clear hx hi hz hj
    rcases hr4 with hr4 | hr4 | hr4 | hr4
    ·have d2 : (i : Int) % 4 = 0 := by omega
     have hv : ((hB (stN P k) i : Nat) : Int) = x / 16777216 % 256 := by have h9 := hB_val (stN P k) j 0 (by omega); rw [HX.out.1, show 4 * j + 0 = i by have := HX.out.2; omega] at h9; simpa using h9
     have EN : Hid (Env (fun _ => True) w [(w0.heap.size, 69, oc (stN P k) (i + 1)), (w.heap.size + 1 + 1, 74, Kc.map wv), (w.heap.size + 1, 74, (stN P k).map wv), (w.heap.size, 69, Z32)] [.bs (.slice (some ⟨pb, po, none⟩) P.length pc) P, .bs (.slice a l.length c) l] _) := Zh ((EL.out.set 0 i (.int .u8 (x / 16777216 % 256)) rfl).cast (by rw [← hv, ← oc_set _ _ HJ.out]; rfl))
     clear hv hr4 EL
     go_wp2
     go_roundg (32 - (i + 1))
     case rel => exact ⟨i + 1, by first | rfl | rw [u10], EN, Zh ⟨by have := HJ.out; omega, rfl⟩⟩
     case measure => exact by have := HJ.out; have := HI.out; omega
    ·have d2 : (i : Int) % 4 = 1 := by omega
     have hv : ((hB (stN P k) i : Nat) : Int) = x / 65536 % 256 := by have h9 := hB_val (stN P k) j 1 (by omega); rw [HX.out.1, show 4 * j + 1 = i by have := HX.out.2; omega] at h9; simpa using h9
     have EN : Hid (Env (fun _ => True) w [(w0.heap.size, 69, oc (stN P k) (i + 1)), (w.heap.size + 1 + 1, 74, Kc.map wv), (w.heap.size + 1, 74, (stN P k).map wv), (w.heap.size, 69, Z32)] [.bs (.slice (some ⟨pb, po, none⟩) P.length pc) P, .bs (.slice a l.length c) l] _) := Zh ((EL.out.set 0 i (.int .u8 (x / 65536 % 256)) rfl).cast (by rw [← hv, ← oc_set _ _ HJ.out]; rfl))
     clear hv hr4 EL
     go_wp2
     go_roundg (32 - (i + 1))
     case rel => exact ⟨i + 1, by first | rfl | rw [u10], EN, Zh ⟨by have := HJ.out; omega, rfl⟩⟩
     case measure => exact by have := HJ.out; have := HI.out; omega
    ·have d2 : (i : Int) % 4 = 2 := by omega
     have hv : ((hB (stN P k) i : Nat) : Int) = x / 256 % 256 := by have h9 := hB_val (stN P k) j 2 (by omega); rw [HX.out.1, show 4 * j + 2 = i by have := HX.out.2; omega] at h9; simpa using h9
     have EN : Hid (Env (fun _ => True) w [(w0.heap.size, 69, oc (stN P k) (i + 1)), (w.heap.size + 1 + 1, 74, Kc.map wv), (w.heap.size + 1, 74, (stN P k).map wv), (w.heap.size, 69, Z32)] [.bs (.slice (some ⟨pb, po, none⟩) P.length pc) P, .bs (.slice a l.length c) l] _) := Zh ((EL.out.set 0 i (.int .u8 (x / 256 % 256)) rfl).cast (by rw [← hv, ← oc_set _ _ HJ.out]; rfl))
     clear hv hr4 EL
     go_wp2
     go_roundg (32 - (i + 1))
     case rel => exact ⟨i + 1, by first | rfl | rw [u10], EN, Zh ⟨by have := HJ.out; omega, rfl⟩⟩
     case measure => exact by have := HJ.out; have := HI.out; omega
    ·have d2 : (i : Int) % 4 = 3 := by omega
     have hv : ((hB (stN P k) i : Nat) : Int) = x % 256 := by have h9 := hB_val (stN P k) j 3 (by omega); rw [HX.out.1, show 4 * j + 3 = i by have := HX.out.2; omega] at h9; simpa using h9
     have EN : Hid (Env (fun _ => True) w [(w0.heap.size, 69, oc (stN P k) (i + 1)), (w.heap.size + 1 + 1, 74, Kc.map wv), (w.heap.size + 1, 74, (stN P k).map wv), (w.heap.size, 69, Z32)] [.bs (.slice (some ⟨pb, po, none⟩) P.length pc) P, .bs (.slice a l.length c) l] _) := Zh ((EL.out.set 0 i (.int .u8 (x % 256)) rfl).cast (by rw [← hv, ← oc_set _ _ HJ.out]; rfl))
     clear hv hr4 EL
     go_wp2
     go_roundg (32 - (i + 1))
     case rel => exact ⟨i + 1, by first | rfl | rw [u10], EN, Zh ⟨by have := HJ.out; omega, rfl⟩⟩
     case measure => exact by have := HJ.out; have := HI.out; omega
   subst hz
   have HL32 : Hid ((oc (stN P k) 32).length = 32) := Zh (oc_len _ _ (Nat.le_refl _))
   have HO : Hid (∀ v ∈ oc (stN P k) 32, v.oneCell' = true) := Zh (by unfold oc; rw [show 32 - 32 = 0 from rfl, List.replicate_zero, List.append_nil]; exact bcl_one _)
   have r1 := Zh ((EL.out.bx 0 rfl).range (o := 0) (c := oc (stN P k) 32) (fun j hj => by rw [Nat.zero_add]))
   have b2 := Zh (Box.there (EL.out.bx 3 rfl) (n := 32) (Nat.le_refl _))
   go_wp2_with (first | (with_reducible refine wpl_load_b bW32 w0.heap.size 0 ?_ ?_ (oc (stN P k) 32) HL32.out r1.out ?_; (· exact ⟨_, rfl, rfl⟩); (· kernel_rfl)) | (with_reducible refine wpl_store_b bW32 w.heap.size 0 (oc (stN P k) 32) ?_ ?_ HL32.out b2.out HO.out ?_; (· exact ⟨_, _, rfl, rfl, rfl⟩); (· kernel_rfl)))
   have EG := Zh (EL.out.whole 3 (oc (stN P k) 32) rfl HL32.out)
   exact bodyPost_ret (results_b bW32 Tryz.results88 _ (EG.out.bx 3 rfl) HL32.out rfl) rfl ⟨by rw [oc, show 32 - 32 = 0 from rfl, List.replicate_zero, List.append_nil, HK.out]; rfl, EG.out.bel⟩
open Go.RowKit
theorem rtagged_c (l : List Nat) {a : Option Addr} {c : Nat} {w : World} (h0 : Fct.at w (fun _ => True) (.bs (.slice a l.length c) l)) (hm0 : l.length ≤ 40000) :
  Calls Tryz.prog 51 #[.string tagS, .slice a l.length c] w fun e w' => e = .returned (.agg (bcl (tagB l)).toArray) ∧ Below w.heap.size w w' := by
 have E0 := Zh ((Env.start (fun _ => True) w).arg (.bs (.slice a l.length c) l) h0)
 have hm := Zh hm0
 clear h0 hm0
 go_enter Tryz.func51, Tryz.ntmps51
 have E1 := Zh (E0.out.push 69 Z32 w.heap.size rfl)
 clear E0
 obtain ⟨tc, w1, hcv, E2⟩ := conv_tag E1.out (g := w.heap.size + 1) (by simp)
 clear E1
 go_wp2_with fail
 refine (rsum_c tagL (Bs.any (E2.out.fc 0 rfl)) (by decide)).mono ?_
 rintro e w2 ⟨rfl, hb⟩
 obtain ⟨H, hH⟩ : ∃ H, sumB tagL = H := ⟨_, rfl⟩
 have HH : Hid (sumB tagL = H ∧ H.length = 32 ∧ B8 H) := Zh ⟨hH, by rw [← hH, sumB_len], by rw [← hH]; exact sumB_8 _⟩
 rw [hH]
 clear hH hcv
 have HL : Hid ((bcl H).length = 32) := Zh (by rw [bcl_len, HH.out.2.1])
 have HO : Hid (∀ v ∈ bcl H, v.oneCell' = true) := Zh (bcl_one H)
 have E3 := Zh ((E2.out.below hb).push 69 Z32 w2.heap.size rfl)
 clear E2 hb
 have b2 := Zh (Box.there (E3.out.bx 0 rfl) (n := 32) (Nat.le_refl _))
 go_wp2_with (with_reducible refine wpl_store_b bW32 w2.heap.size 0 (bcl H) ?_ ?_ HL.out b2.out HO.out ?_; (· exact ⟨_, _, rfl, rfl, rfl⟩); (· kernel_rfl))
 have E4 := Zh (E3.out.whole 0 (bcl H) rfl HL.out)
 clear E3 b2 HO
 generalize World.setCells _ _ _ _ = wq at *
 go_wp2_with fail
 have E5 := Zh E4.out.drew
 clear E4
 refine wp_regionU (S := fun w' => w'.rangeAt w2.heap.size 0 (bcl H)) [] (by kernel_rfl) ((E5.out.bx 0 rfl).range (o := 0) (c := bcl H) (fun j hj => by rw [Nat.zero_add])) (fun hHeld => ?_)
 generalize wq.drew = wd at *
 refine uTake (i := 0) (some 9) (v := .agg (bcl H).toArray) rfl rfl (by kernel_rfl) (by kernel_rfl) (by kernel_rfl) (by kernel_rfl) (fun _ _ _ h => h) (by rfl) (by assumption) ?_ ?_
 ·exact (fun wS hSw => exec_load_b bW32 _ rfl w2.heap.size 0 rfl _ HL.out hSw)
 try simp only [Act.put, pq0, pq1, pq2]
 refine uTake (i := 2) (some 11) (v := .agg (bcl H).toArray) rfl rfl (by kernel_rfl) (by kernel_rfl) (by kernel_rfl) (by kernel_rfl) (fun _ _ _ h => h) (by rfl) (by assumption) ?_ ?_
 ·exact (fun wS hSw => exec_load_b bW32 _ rfl w2.heap.size 0 rfl _ HL.out hSw)
 try simp only [Act.put, pq0, pq1, pq2]
 refine uTk (i := 4) (some 13) (v := ?_) ?_ ?_
 rotate_left
 ·(intro wS hSw; (try dsimp only at hSw); go_simp; try with_reducible rfl)
 try simp only [Act.put, pq0, pq1, pq2]
 refine uRd 1 (fun KK hKK => ?_)
 go_simp
 refine (rjoin_c [] H HH.out.2.1 HH.out.2.2 (Bs.nil _ _) (by decide)).mono ?_
 rintro e w3 ⟨⟨sg, cs, va, vc, rfl, hO, hG⟩, hb⟩
 have E6 := Zh (Env.freezeB (A := [(w2.heap.size, 69, bcl H), (w.heap.size, 69, Z32)]) (E5.out.gotSeg hb hG.out) hO.out)
 clear E5 hb hG hO
 (try dsimp only)
 refine hKK.out _ _ ((E6.out.bx 0 rfl).range (o := 0) (c := bcl H) (fun j hj => by rw [Nat.zero_add])) (fun hHeld => ?_)
 clear hKK KK
 try simp only [Act.put, pq0, pq1, pq2]
 refine uRd 3 (fun KK hKK => ?_)
 go_simp
 refine (rjoin_c H H HH.out.2.1 HH.out.2.2 (Bs.any (E6.out.fc 0 rfl)) (by have := HH.out.2.1; omega)).mono ?_
 rintro e w4 ⟨⟨sg1, cs1, v1, c1, rfl, hO1, hG⟩, hb⟩
 have E7 := Zh (E6.out.gotSeg hb hG.out)
 clear E6 hb hG
 (try dsimp only)
 refine hKK.out _ _ ((E7.out.bx 0 rfl).range (o := 0) (c := bcl H) (fun j hj => by rw [Nat.zero_add])) (fun hHeld => ?_)
 clear hKK KK
 try simp only [Act.put, pq0, pq1, pq2]
 refine uRd 5 (fun KK hKK => ?_)
 refine op_appB (A := [(w2.heap.size, 69, bcl H), (w.heap.size, 69, Z32)]) (some 14) rfl rfl (.tmp 12) (.tmp 13) rfl E7.out hO1.out rfl rfl (Bs.src (E7.out.fc 2 rfl)).2.1 (Bs.src (E7.out.fc 2 rfl)).2.2 (by have := HH.out.2.1; have := hm.out; rw [List.length_append]; omega) ?_
 intro sg2 cs2 p2 v2 c2 w5 hp2 hO2 E8
 have E9 := Zh (E8.out.freezeB (A := [(w2.heap.size, 69, bcl H), (w.heap.size, 69, Z32)]) hO2.out)
 clear E7 E8 hO1 hO2
 (try dsimp only)
 refine hKK.out _ _ ((E9.out.bx 0 rfl).range (o := 0) (c := bcl H) (fun j hj => by rw [Nat.zero_add])) (fun hHeld => ?_)
 clear hKK KK
 try simp only [Act.put, pq0, pq1, pq2]
 refine uRd 6 (fun KK hKK => ?_)
 go_simp
 refine (rsum_c p2 (Bs.any (E9.out.fc 0 rfl)) (by have := HH.out.2.1; have := hm.out; rw [hp2.out, List.length_append, List.length_append]; omega)).mono ?_
 rintro e w6 ⟨rfl, hb⟩
 have hR : sumB p2 = tagB l := by rw [hp2.out, ← HH.out.1]; rfl
 rw [hR]
 have EA := Zh (E9.out.below hb)
 clear E9 hb hR
 (try dsimp only)
 refine hKK.out _ _ ((EA.out.bx 0 rfl).range (o := 0) (c := bcl H) (fun j hj => by rw [Nat.zero_add])) (fun hHeld => ?_)
 clear hKK KK
 try simp only [Act.put, pq0, pq1, pq2]
 refine uRd 7 (fun KK hKK => ?_)
 refine op_store_b bW32 none rfl w.heap.size 0 (bcl (tagB l)) ⟨_, _, rfl, rfl, rfl⟩ (by kernel_rfl) (by rw [bcl_len]; exact sumB_len _) (Box.there (EA.out.bx 1 rfl) (Nat.le_refl _)) (bcl_one _) ?_
 have EB := Zh (EA.out.whole 1 (bcl (tagB l)) rfl (by rw [bcl_len]; exact sumB_len _))
 clear EA
 (try dsimp only)
 refine hKK.out _ _ ((EB.out.bx 0 rfl).range (o := 0) (c := bcl H) (fun j hj => by rw [Nat.zero_add])) (fun hHeld => ?_)
 clear hKK KK
 try simp only [Act.put, pq0, pq1, pq2]
 refine uDone (by kernel_rfl) ?_ _
 go_wp2_with fail
 exact bodyPost_ret (results_b bW32 Tryz.results51 _ (EB.out.bx 1 rfl) (by rw [bcl_len]; exact sumB_len _) rfl) rfl ⟨rfl, EB.out.bel⟩
theorem rexpand_c (H : List Nat) (hl0 : H.length = 32) (h80 : B8 H) {w : World} :
  Calls Tryz.prog 50 #[.agg (bcl H).toArray, .int .i64 96] w fun e w' => (∃ g vc, e = .returned (.slice (some ⟨g, 0, none⟩) 96 vc) ∧ Hid (Bs w' (fun b => w.heap.size ≤ b) (.slice (some ⟨g, 0, none⟩) 96 vc) (expB H 3))) ∧ Below w.heap.size w w' := by
 have E0 := Zh (Env.start (fun _ => True) w)
 have HH := Zh (And.intro hl0 h80)
 clear hl0 h80
 go_enter Tryz.func50, Tryz.ntmps50
 go_wp2_with fail
 have E1 := Zh (E0.out.push 69 (bcl H) w.heap.size rfl)
 clear E0
 have HL : Hid ((bcl H).length = 32) := Zh (by rw [bcl_len, HH.out.1])
 go_loopg [5, 6] (3) (fun gk z5 z6 wr => ∃ (sg : List Bx) (cs : List Value) (p : List Nat) (va : Option Addr) (vc k : Nat), z5 = .slice va p.length vc ∧ z6 = .int .i64 (k : Int) ∧ Hid (Env (fun _ => True) w ([(w.heap.size, 69, bcl H)] ++ sg) [] wr) ∧ Hid (OB sg cs (.slice va p.length vc) p) ∧ Hid ((k ≤ 3 ∧ p = expB H k) ∧ gk = 3 - k))
 case atStart => exact ⟨[], [], [], none, 0, 0, rfl, rfl, E1, Zh OB.nil, Zh ⟨⟨Nat.zero_le _, rfl⟩, rfl⟩⟩
 case round =>
  clear E1
  obtain ⟨sg, cs, p, va, vc, k, rfl, rfl, EL, hO, HA⟩ := hrel
  have hp : p.length = 32 * k := by rw [HA.out.1.2, expB_len]
  by_cases hy : k = 3
  rotate_left
  ·have hk : k < 3 := by have := HA.out; omega
   have t1 : decide ((p.length : Int) < 96) = true := decide_eq_true (by omega)
   have t2 : decide (p.length < 96) = true := decide_eq_true (by omega)
   have HK := Zh (And.intro hk hp)
   clear hk hy hp
   have E2 := Zh (Env.freezeB (A := [(w.heap.size, 69, bcl H)]) EL.out hO.out)
   have hB8 := Zh hO.out.2
   clear EL hO
   have r1 := Zh ((E2.out.bx 0 rfl).range (o := 0) (c := bcl H) (fun j hj => by rw [Nat.zero_add]))
   go_wp2_with (with_reducible refine wpl_load_b bW32 w.heap.size 0 ?_ ?_ (bcl H) HL.out r1.out ?_; (· exact ⟨_, rfl, rfl⟩); (· kernel_rfl))
   clear r1
   refine (rjoin_c [] H HH.out.1 HH.out.2 (Bs.nil _ _) (by decide)).mono ?_
   rintro e w1 ⟨⟨s1, cs1, v1, c1, rfl, hO1, hG⟩, hb⟩
   have E3 := Zh (E2.out.gotSeg hb hG.out)
   clear E2 hb hG
   go_wp2_with fail
   refine (rbytes_c k (by have := HK.out; omega)).mono ?_
   rintro e w2 ⟨⟨sb, cb, ba, bk, rfl, hB, hH⟩, hb⟩
   have E4 := Zh (Env.freezeB (A := [(w.heap.size, 69, bcl H)] ++ s1) (E3.out.gotSeg hb hH.out) hB.out)
   clear E3 hb hB hH
   go_wp2_with (at_builtin; refine wpl_appB (A := [(w.heap.size, 69, bcl H)]) rfl _ _ rfl E4.out hO1.out rfl rfl (Bs.src (E4.out.fc 0 rfl)).2.1 (cntN_8 _) (by have := HH.out.1; simp only [List.nil_append]; omega) ?_)
   intro s2 cs2 q v2 c2 w3 hq hO2 E5
   have E6 := Zh (E5.out.freezeB (A := [(w.heap.size, 69, bcl H)]) hO2.out)
   clear E4 E5 hO1 hO2
   go_wp2_with fail
   refine (rsum_c q (Bs.any (E6.out.fc 0 rfl)) (by have := HH.out.1; rw [hq.out]; simp [cntN]; omega)).mono ?_
   rintro e w4 ⟨rfl, hb⟩
   have E7 := Zh (E6.out.below hb)
   clear E6 hb
   obtain ⟨H2, hH2⟩ : ∃ H2, sumB q = H2 := ⟨_, rfl⟩
   have HR : Hid (H2 = sumB (H ++ cntN k) ∧ H2.length = 32 ∧ B8 H2) := Zh ⟨by rw [← hH2, hq.out], by rw [← hH2, sumB_len], by rw [← hH2]; exact sumB_8 _⟩
   rw [hH2]
   clear hH2
   go_wp2_with fail
   refine (rjoin_c p H2 HR.out.2.1 HR.out.2.2 (Bs.any (E7.out.fc 2 rfl)) (by have := HK.out; omega)).mono ?_
   rintro e w5 ⟨⟨s3, cs3, v3, c3, rfl, hO3, hG⟩, hb⟩
   have E8 := Zh ((E7.out.gotSeg hb hG.out).forget.forget.forget)
   clear E7 hb hG
   have u1 : wrap64 ((k : Int) + 1) = ((k + 1 : Nat) : Int) := by have := HK.out; unfold wrap64; omega
   go_wp2
   go_roundg (3 - (k + 1))
   case rel => exact ⟨s3, cs3, p ++ H2, v3, c3, k + 1, by first | rfl | rw [List.length_append], by first | rfl | rw [u1], E8, hO3, Zh ⟨⟨by have := HK.out; omega, by rw [HA.out.1.2, HR.out.1]; rfl⟩, rfl⟩⟩
   case measure => exact by have := HK.out; have := HA.out; omega
  subst hy
  have t1 : decide ((p.length : Int) < 96) = false := decide_eq_false (by omega)
  have t2 : decide (p.length < 96) = false := decide_eq_false (by omega)
  have hB := Zh (hO.out.bs (Env.heldS (A := [(w.heap.size, 69, bcl H)]) EL.out))
  obtain ⟨g, h2, rfl⟩ : ∃ g, p.length ≤ vc ∧ va = some ⟨g, 0, none⟩ := by
   rcases hO.out.1.1 with ⟨_, _, _, h0⟩ | ⟨g, cap, h1, h0, h2, _⟩
   ·omega
   ·simp only [Value.slice.injEq, true_and] at h0
    obtain ⟨rfl, rfl⟩ := h0
    exact ⟨g, h2, rfl⟩
  have q1 : 96 ≤ vc := by omega
  have q2 : (96 : Int) ≤ (vc : Int) := by omega
  have HP := Zh (And.intro hp HA.out.1.2)
  have hbel := Zh EL.out.bel
  clear HA h2 hp EL hO
  go_wp2
  go_ret
  exact ⟨⟨g, vc, rfl, Zh (by have h := hB.out; rw [HP.out.1, HP.out.2] at h; exact h)⟩, hbel.out⟩
open Go.RowKit
/-- the number of the first k bytes -/
def hnN (X : List Nat) : Nat → Nat
 | 0 => 0
 | k + 1 => hnN X k * 256 + X.getD k 0
theorem hnN_lt {X : List Nat} (h : B8 X) (k : Nat) : hnN X k < 256 ^ k := by
 induction k with
 | zero => exact Nat.one_pos
 | succ k ih => rw [hnN, Nat.pow_succ]; have := h.getD k; omega
theorem hnN_len {X : List Nat} (h : B8 X) {k : Nat} (hk : k ≤ 96) : len (hnN X k) ≤ 24 := Nn.NatMath.len_le_iff.2 (Nat.lt_of_lt_of_le (hnN_lt h k) (Nat.le_trans (Nat.pow_le_pow_right (by omega) hk) (by decide)))
theorem wL_drop (X : List Nat) (j : Nat) (hj : j ≤ 24) : Nn.NatMath.val ((wL X).drop (24 - j)) = hnN X (4 * j) := by
 induction j with
 | zero => rw [List.drop_eq_nil_of_le (by rw [wL_len]; omega)]; rfl
 | succ j ih =>
  have hlt : 24 - (j + 1) < (wL X).length := by rw [wL_len]; omega
  rw [List.drop_eq_getElem_cons hlt, show 24 - (j + 1) + 1 = 24 - j by omega, Nn.NatMath.val, ih (by omega)]
  have e : (wL X)[24 - (j + 1)]'hlt = wrd X (24 - (j + 1)) := by
   have h := wL_getD X (24 - (j + 1)) (by omega)
   rw [List.getD_eq_getElem?_getD, List.getElem?_eq_getElem hlt] at h
   exact h
  rw [e, wrd, show 92 - 4 * (24 - (j + 1)) = 4 * j by omega, show 93 - 4 * (24 - (j + 1)) = 4 * j + 1 by omega, show 94 - 4 * (24 - (j + 1)) = 4 * j + 2 by omega, show 95 - 4 * (24 - (j + 1)) = 4 * j + 3 by omega, show 4 * (j + 1) = 4 * j + 1 + 1 + 1 + 1 by omega, hnN, hnN, hnN, hnN]
  omega
theorem hnN_val (X : List Nat) : Nn.NatMath.val (wL X) = hnN X 96 := wL_drop X 24 (Nat.le_refl _)
theorem len_mul256 {X : List Nat} (h : B8 X) {k : Nat} (hk : k ≤ 96) : len (hnN X k * 256) ≤ 25 := Nn.NatMath.len_le_iff.2 (by
 have h1 := hnN_lt h k
 have h2 : (256 : Nat) ^ k ≤ 256 ^ 96 := Nat.pow_le_pow_right (by omega) hk
 have h3 : (256 : Nat) ^ 96 * 256 ≤ Nn.NatMath.Bp 25 := by decide
 omega)
theorem sl_zero (W : World) : Sl W (.slice none (len 0) 0) (digs 0) := by
 rw [Nn.NatMath.len_zero, Nn.NatMath.digs_zero]
 exact ⟨none, 0, rfl, Nat.le_refl _, by decide, (fun u hu => by cases hu), (fun h => absurd rfl h), fun a e => by cases e⟩
theorem rhash_c (N E r : Nat) (l : List Nat) {na ea ma : Option Addr} {nk ek mk : Nat} {w : World} (hN : Sl w (.slice na (len N) nk) (digs N)) (hE : Sl w (.slice ea (len E) ek) (digs E)) (hM : Fct.at w (fun _ => True) (.bs (.slice ma l.length mk) l)) (HK0 : Key N E) (hm0 : l.length ≤ 16384) (hr0 : hshN l % N = r) :
  Calls Tryz.prog 17 #[.agg #[.slice na (len N) nk, .slice ea (len E) ek], .slice ma l.length mk] w fun e w' => Nn.RetV r e w' ∧ Below w.heap.size w w' := by
 have E0 := Zh (((((Env.start (fun _ => True) w).arg (.bs (.slice ma l.length mk) l) hM).argS hN).argS hE))
 have HK := Zh HK0
 have hm := Zh hm0
 have hr := Zh hr0
 clear hN hE hM HK0 hm0 hr0
 go_enter Tryz.func17, Tryz.ntmps17
 have E1 := Zh ((E0.out.push 26 [.slice na (len N) nk, .slice ea (len E) ek] w.heap.size rfl).push 24 [.slice none 0 0] (w.heap.size + 1) (by simp))
 clear E0
 go_wp2_with fail
 refine (rtagged_c l (Bs.any (E1.out.fc 2 rfl)) (by have := hm.out; omega)).mono ?_
 rintro e w2 ⟨rfl, hb⟩
 obtain ⟨T, hT⟩ : ∃ T, tagB l = T := ⟨_, rfl⟩
 have HT : Hid (tagB l = T ∧ T.length = 32 ∧ B8 T) := Zh ⟨hT, by rw [← hT]; exact sumB_len _, by rw [← hT]; exact sumB_8 _⟩
 rw [hT]
 have E2 := Zh (E1.out.below hb)
 clear hT hb E1
 go_wp2_with fail
 refine (rexpand_c T HT.out.2.1 HT.out.2.2).mono ?_
 rintro e w3 ⟨⟨g, vc, rfl, hX⟩, hb⟩
 obtain ⟨X, hXX⟩ : ∃ X, expB T 3 = X := ⟨_, rfl⟩
 rw [hXX] at hX
 have HX : Hid (hshN l = hnN X 96 ∧ X.length = 96 ∧ B8 X) := Zh ⟨by rw [hshN, HT.out.1, hXX, hnN_val], by rw [← hXX, expB_len], by rw [← hXX]; exact expB_8 _ _⟩
 have E3 := Zh (E2.out.got (E2.out.below hb) (.bs (.slice (some ⟨g, 0, none⟩) 96 vc) X) (Bs.ge hX.out))
 clear HT hXX hX hb E2
 have E4 := Zh (E3.out.push 24 [.slice none 0 0] w3.heap.size rfl)
 clear E3
 go_wp2_with fail
 have E6 : Hid (Env (fun _ => True) w [(w3.heap.size, 24, [.slice none (len (hnN X 0)) 0]), (w.heap.size + 1, 24, [.slice none 0 0]), (w.heap.size, 26, [.slice na (len N) nk, .slice ea (len E) ek])] [.gn (gS (.slice none (len (hnN X 0)) 0) (digs (hnN X 0))), .bs (.slice (some ⟨g, 0, none⟩) 96 vc) X, .gn (gS (.slice ea (len E) ek) (digs E)), .gn (gS (.slice na (len N) nk) (digs N)), .bs (.slice ma l.length mk) l] _) := Zh ((E4.out.cast (by rw [hnN, Nn.NatMath.len_zero])).noteS (sl_zero _) rfl)
 clear E4
 go_loopg [7] (96) (fun gk z7 wr => ∃ (k : Nat) (xa : Option Addr) (xk : Nat), z7 = .int .i64 (k : Int) ∧ Hid (Env (fun _ => True) w [(w3.heap.size, 24, [.slice xa (len (hnN X k)) xk]), (w.heap.size + 1, 24, [.slice none 0 0]), (w.heap.size, 26, [.slice na (len N) nk, .slice ea (len E) ek])] [.gn (gS (.slice xa (len (hnN X k)) xk) (digs (hnN X k))), .bs (.slice (some ⟨g, 0, none⟩) 96 vc) X, .gn (gS (.slice ea (len E) ek) (digs E)), .gn (gS (.slice na (len N) nk) (digs N)), .bs (.slice ma l.length mk) l] wr) ∧ Hid (k ≤ 96 ∧ gk = 96 - k))
 case atStart => exact ⟨0, none, 0, rfl, E6, Zh ⟨Nat.zero_le _, rfl⟩⟩
 case round =>
  clear E6
  obtain ⟨k, xa, xk, rfl, EL, HA⟩ := hrel
  by_cases hy : k = 96
  rotate_left
  ·have hk : k < 96 := by have := HA.out; omega
   have t1 : decide ((k : Int) < 96) = true := decide_eq_true (by omega)
   have t2 : decide (k < 96) = true := decide_eq_true hk
   have t3 : (k : Int) < 96 := by omega
   go_wp2_with fail
   have EF0 := Zh EL.out.drew
   have EB0 := Zh EF0.out.forget
   clear EL
   obtain ⟨b, hb0⟩ : ∃ b, X.getD k 0 = b := ⟨_, rfl⟩
   have b8 : b < 256 := by rw [← hb0]; exact HX.out.2.2.getD k
   have cx : _ = some (.slice xa (len (hnN X k)) xk : Value) := (EF0.out.bx 0 rfl).cell 0 rfl
   have cb := gBy.get (Bs.by (EF0.out.fc 1 rfl)) k (by rw [HX.out.2.1]; exact hk)
   rw [hb0, Nat.zero_add] at cb
   have HB := Zh (And.intro hk (And.intro hb0 b8))
   have u1 : IntKind.u64.wrap (b : Int) = (b : Int) := by unfold IntKind.wrap; simp [IntKind.bits]; omega
   clear hb0 hk hy b8
   have KEEP : Hid (∀ (W w' : World), Below W.heap.size W w' → (W.cell? ⟨w3.heap.size, 0, none⟩ = some (.slice xa (len (hnN X k)) xk) ∧ W.cell? ⟨g, k, none⟩ = some (.int .u8 (b : Int))) → w'.cell? ⟨w3.heap.size, 0, none⟩ = some (.slice xa (len (hnN X k)) xk) ∧ w'.cell? ⟨g, k, none⟩ = some (.int .u8 (b : Int))) := Zh (fun W w' hb ⟨h0, h1⟩ => ⟨(hb.cell (World.block_lt_of_cell? _ _ h0)).trans h0, (hb.cell (World.block_lt_of_cell? _ _ h1)).trans h1⟩)
   refine wp_regionU (S := fun w' => w'.cell? ⟨w3.heap.size, 0, none⟩ = some (.slice xa (len (hnN X k)) xk) ∧ w'.cell? ⟨g, k, none⟩ = some (.int .u8 (b : Int))) [10] (by kernel_rfl) ⟨cx, cb⟩ (fun hHeld => ?_)
   clear cx cb
   generalize wr.drew = wd at *
   refine uTk (i := 0) (some 18) (v := ?_) ?_ ?_
   rotate_left
   ·(intro wS hSw; (try dsimp only at hSw); obtain ⟨hS1, hS2⟩ := hSw; go_simp; try with_reducible rfl)
   try simp only [Act.put, pq0, pq1, pq2]
   refine uTk (i := 3) (some 21) (v := ?_) ?_ ?_
   rotate_left
   ·(intro wS hSw; (try dsimp only at hSw); obtain ⟨hS1, hS2⟩ := hSw; go_simp; try with_reducible rfl)
   try simp only [Act.put, pq0, pq1, pq2]
   refine uTk (i := 4) (some 22) (v := ?_) ?_ ?_
   rotate_left
   ·(intro wS hSw; (try dsimp only at hSw); obtain ⟨hS1, hS2⟩ := hSw; go_simp; try with_reducible rfl)
   try simp only [Act.put, pq0, pq1, pq2]
   refine uTk (i := 5) (some 23) (v := ?_) ?_ ?_
   rotate_left
   ·(intro wS hSw; (try dsimp only at hSw); obtain ⟨hS1, hS2⟩ := hSw; go_simp; try with_reducible rfl)
   try simp only [Act.put, pq0, pq1, pq2]
   refine uTk (i := 6) (some 24) (v := ?_) ?_ ?_
   rotate_left
   ·(intro wS hSw; (try dsimp only at hSw); obtain ⟨hS1, hS2⟩ := hSw; go_simp; try with_reducible rfl)
   try simp only [Act.put, pq0, pq1, pq2]
   refine uTk (i := 7) (some 25) (v := ?_) ?_ ?_
   rotate_left
   ·(intro wS hSw; (try dsimp only at hSw); obtain ⟨hS1, hS2⟩ := hSw; go_simp; try with_reducible rfl)
   try simp only [Act.put, pq0, pq1, pq2]
   refine uRd 1 (fun KK hKK => ?_)
   go_simp
   refine (Nn.rOf_c 256 _ (by decide)).mono ?_
   rintro e wc1 ⟨⟨a1, k1, rfl, h1⟩, hb⟩
   (try dsimp only)
   have EF1 := Zh ((EF0.out.below hb).noteS h1.out rfl)
   have EB1 := Zh (EB0.out.below hb)
   have hS2 := KEEP.out _ _ hb hHeld
   clear hHeld hb EF0 EB0
   refine hKK.out _ _ hS2 (fun hHeld => ?_)
   clear hKK KK hS2
   try simp only [Act.put, pq0, pq1, pq2]
   refine uRd 2 (fun KK hKK => ?_)
   go_simp
   refine (Nn.rTimes_c rfl (Nat.le_trans (hnN_len HX.out.2.2 (Nat.le_of_lt HB.out.1)) (by decide)) (Nat.le_trans (len_small (by decide)) (by decide)) (gS.sl (EF1.out.fc 1 rfl)) (gS.sl (EF1.out.fc 0 rfl))).mono ?_
   rintro e wc2 ⟨⟨a2, k2, rfl, h2⟩, hb⟩
   (try dsimp only)
   have EF2 := Zh ((EF1.out.below hb).noteS h2.out rfl)
   have EB2 := Zh (EB1.out.below hb)
   have hS2 := KEEP.out _ _ hb hHeld
   clear hHeld hb EF1 EB1
   refine hKK.out _ _ hS2 (fun hHeld => ?_)
   clear hKK KK hS2
   try simp only [Act.put, pq0, pq1, pq2]
   refine uRd 8 (fun KK hKK => ?_)
   go_simp
   refine (Nn.rOf_c b _ (by have := HB.out.2.2; omega)).mono ?_
   rintro e wc8 ⟨⟨a8, k8, rfl, h8⟩, hb⟩
   (try dsimp only)
   have EF3 := Zh ((EF2.out.below hb).noteS h8.out rfl)
   have EB3 := Zh (EB2.out.below hb)
   have hS2 := KEEP.out _ _ hb hHeld
   clear hHeld hb EF2 EB2
   refine hKK.out _ _ hS2 (fun hHeld => ?_)
   clear hKK KK hS2
   try simp only [Act.put, pq0, pq1, pq2]
   refine uRd 9 (fun KK hKK => ?_)
   go_simp
   refine (Nn.rPlus_c (S := hnN X (k + 1)) (by rw [hnN, HB.out.2.1]) (Nat.le_trans (len_mul256 HX.out.2.2 (Nat.le_of_lt HB.out.1)) (by decide)) (Nat.le_trans (len_small (by have := HB.out.2.2; omega)) (by decide)) (gS.sl (EF3.out.fc 1 rfl)) (gS.sl (EF3.out.fc 0 rfl))).mono ?_
   rintro e wc9 ⟨⟨a9, k9, rfl, h9⟩, hb⟩
   (try dsimp only)
   have EF4 := Zh ((EF3.out.below hb).noteS h9.out rfl)
   have EB4 := Zh (EB3.out.below hb)
   have hS2 := KEEP.out _ _ hb hHeld
   clear hHeld hb EF3 EB3
   refine hKK.out _ _ hS2 (fun hHeld => ?_)
   clear hKK KK hS2
   try simp only [Act.put, pq0, pq1, pq2]
   refine uReady (rs := [10]) (by kernel_rfl) (by simp) ?_
   refine ReadyU.consU (by kernel_rfl) rfl (fun KK hKK => ?_) ReadyU.nil
   have cf := (EB4.out.bx 0 rfl).frozen 0
   go_simp
   have EN : Hid (Env (fun _ => True) w [(w3.heap.size, 24, [.slice a9 (len (hnN X (k + 1))) k9]), (w.heap.size + 1, 24, [.slice none 0 0]), (w.heap.size, 26, [.slice na (len N) nk, .slice ea (len E) ek])] [.bs (.slice (some ⟨g, 0, none⟩) 96 vc) X, .gn (gS (.slice ea (len E) ek) (digs E)), .gn (gS (.slice na (len N) nk) (digs N)), .bs (.slice ma l.length mk) l] _) := Zh (EB4.out.set 0 0 (.slice a9 (len (hnN X (k + 1))) k9) rfl)
   have EM := Zh (EF4.out.set 0 0 (.slice a9 (len (hnN X (k + 1))) k9) rfl)
   refine hKK.out _ _ ?_
   clear hKK KK hHeld EB4 EF4 cf KEEP
   try simp only [Act.put, pq0, pq1, pq2]
   refine uDone (by kernel_rfl) ?_ _
   generalize World.setCell _ _ _ = wn at *
   have EQ := Zh (EN.out.noteS (gS.sl (EM.out.fc 0 rfl)) rfl)
   have u7 : wrap64 ((k : Int) + 1) = ((k + 1 : Nat) : Int) := by have := HB.out.1; unfold wrap64; omega
   clear EN EM t1 t2 t3 u1
   go_wp2
   go_roundg (96 - (k + 1))
   case rel => exact ⟨k + 1, a9, k9, by first | rfl | rw [u7], EQ, Zh ⟨by have := HB.out.1; omega, rfl⟩⟩
   case measure => exact by have := HB.out.1; have := HA.out; omega
  subst hy
  obtain ⟨V, hV⟩ : ∃ V, hnN X 96 = V := ⟨_, rfl⟩
  have HV : Hid (hshN l = V ∧ len V ≤ 24) := Zh ⟨by rw [HX.out.1, hV], by rw [← hV]; exact hnN_len HX.out.2.2 (Nat.le_refl _)⟩
  rw [hV] at EL
  try rw [hV]
  clear hV HX HA
  have t1 : decide ((96 : Int) < 96) = false := decide_eq_false (by omega)
  have c0 : _ = some (.slice xa (len V) xk : Value) := (EL.out.bx 0 rfl).cell 0 rfl
  have c3 := (EL.out.bx 2 rfl).cell 0 rfl
  go_wp2_with fail
  clear c0 c3
  refine (Nn.rMod_n (r := r) (by rw [← HV.out.1]; exact hr.out) (Nat.le_trans HV.out.2 (by decide)) (by have := HK.out.n15; omega) (Nat.le_trans HK.out.lN (by omega)) (gS.sl (EL.out.fc 0 rfl)) (gS.sl (EL.out.fc 3 rfl))).mono ?_
  rintro e w9 ⟨⟨za, zk, rfl, hz⟩, hb⟩
  have E7 := Zh ((EL.out.below hb).noteS hz.out rfl)
  clear EL hb hz
  have cf := (E7.out.bx 1 rfl).frozen 0
  have cc := (E7.out.bx 1 rfl).cell 0 rfl
  have E8 := Zh (E7.out.set 1 0 (.slice za (len r) zk) rfl)
  clear E7 t1 HV
  go_wp2_with fail
  have hfin := E8.out
  have q2 := (hfin.bx 1 rfl).cell 0 rfl
  exact bodyPost_ret (v := .agg #[.slice za (len r) zk]) (by simp [results, Tryz.results17, go_sem, q2]) rfl ⟨⟨za, zk, rfl, Zh (gS.sl (hfin.fc 0 rfl))⟩, hfin.bel⟩
end Go.Proofs.YtikopkkebdobdaaGreatDoor

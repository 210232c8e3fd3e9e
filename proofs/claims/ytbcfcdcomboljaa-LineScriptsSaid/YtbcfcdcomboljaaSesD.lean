/- session: copies. -/
import Derived.Test.YtbcfcdcomboljaaSesC
import Derived.Test.YtbcfcdcomboljaaNatReg
namespace Go.Proofs.Ytbcfcdcomboljaa
open Go.RowKit
set_option linter.unusedVariables false

set_option maxRecDepth 100000 in
set_option maxHeartbeats 1000000 in
theorem copyOf_c {D : Nat → Prop} (M : Msg) {xa : Option Addr} {xk : Nat} {w : World} (hx : Fct.at w D (.bs (.slice xa M.body.length xk) M.body)) (hl : M.body.length ≤ 1000000) :
    Calls Try.prog 51 #[.agg #[.int .i64 M.fr, .int .i64 M.to_, .int .i64 M.kd, .int .i64 M.nm, .slice xa M.body.length xk]] w fun e w' => RetM (fun b => D b ∨ w.heap.size ≤ b) M e w' ∧ Below w.heap.size w w' := by
  have E0 := Lib.hid ((Env.start D w).arg (.bs (.slice xa M.body.length xk) M.body) hx)
  clear hx
  go_enter Try.func51, Try.ntmps51
  have HL := Lib.hid hl
  clear hl
  go_wp2_with fail
  have E1 := Lib.hid (((E0.out.push 24 [.int .i64 M.fr, .int .i64 M.to_, .int .i64 M.kd, .int .i64 M.nm, .slice xa M.body.length xk] (w.heap.size) (by simp)).push 24 [.int .i64 0, .int .i64 0, .int .i64 0, .int .i64 0, .slice none 0 0] (w.heap.size + 1) (by simp)))
  refine (clone8_c (E1.out.fc 0 rfl) HL.out).mono ?_
  rintro e w1 ⟨⟨va, vk, rfl, hv⟩, hb⟩
  have E2 := Lib.hid (E1.out.got (E1.out.below hb) (.bs (.slice va M.body.length vk) M.body) hv.out)
  clear E0 E1 hb hv
  have b1 := E2.out.bx 1 rfl
  have c1_4 := b1.cell 4 rfl
  have f1_4 := b1.frozen 4
  clear b1
  have E3 : Hid (Env D w [(w.heap.size + 1, 24, [.int .i64 0, .int .i64 0, .int .i64 0, .int .i64 0, .slice none 0 0]), (w.heap.size, 24, [.int .i64 M.fr, .int .i64 M.to_, .int .i64 M.kd, .int .i64 M.nm, .slice va M.body.length vk])] [.bs (.slice va M.body.length vk) M.body, .bs (.slice xa M.body.length xk) M.body] _) := Lib.hid ((E2.out.set 1 4 (.slice va M.body.length vk) rfl))
  have b2 := E3.out.bx 1 rfl
  have c2_0 := b2.cell 0 rfl
  have c2_1 := b2.cell 1 rfl
  have c2_2 := b2.cell 2 rfl
  have c2_3 := b2.cell 3 rfl
  have c2_4 := b2.cell 4 rfl
  clear b2
  have b3 := E3.out.bx 0 rfl
  have c3_0 := b3.cell 0 rfl
  have c3_1 := b3.cell 1 rfl
  have c3_2 := b3.cell 2 rfl
  have c3_3 := b3.cell 3 rfl
  have c3_4 := b3.cell 4 rfl
  have f3_0 := b3.frozen 0
  have f3_1 := b3.frozen 1
  have f3_2 := b3.frozen 2
  have f3_3 := b3.frozen 3
  have f3_4 := b3.frozen 4
  clear b3
  go_wp2
  have E4 : Hid (Env D w [(w.heap.size + 1, 24, [.int .i64 M.fr, .int .i64 M.to_, .int .i64 M.kd, .int .i64 M.nm, .slice va M.body.length vk]), (w.heap.size, 24, [.int .i64 M.fr, .int .i64 M.to_, .int .i64 M.kd, .int .i64 M.nm, .slice va M.body.length vk])] [.bs (.slice va M.body.length vk) M.body, .bs (.slice xa M.body.length xk) M.body] _) := Lib.hid ((((((E3.out.set 0 0 (.int .i64 M.fr) rfl).set 0 1 (.int .i64 M.to_) rfl).set 0 2 (.int .i64 M.kd) rfl).set 0 3 (.int .i64 M.nm) rfl).set 0 4 (.slice va M.body.length vk) rfl))
  have hfin := E4.out
  have q4 := (hfin.bx 0 rfl).cell 0 rfl
  have q5 := (hfin.bx 0 rfl).cell 1 rfl
  have q6 := (hfin.bx 0 rfl).cell 2 rfl
  have q7 := (hfin.bx 0 rfl).cell 3 rfl
  have q8 := (hfin.bx 0 rfl).cell 4 rfl
  exact bodyPost_ret (v := .agg #[.int .i64 M.fr, .int .i64 M.to_, .int .i64 M.kd, .int .i64 M.nm, .slice va M.body.length vk]) (by simp [results, Try.results51, go_sem, q4, q5, q6, q7, q8]) rfl ⟨⟨_, _, rfl, (Lib.hid (hfin.out 0 rfl))⟩, hfin.bel⟩
end Go.Proofs.Ytbcfcdcomboljaa

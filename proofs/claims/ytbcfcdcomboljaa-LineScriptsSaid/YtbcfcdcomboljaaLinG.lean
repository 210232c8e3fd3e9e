/- line: copies of a message and of a line. -/
import Derived.Test.YtbcfcdcomboljaaLinF
namespace Go.Proofs.Ytbcfcdcomboljaa
open Go.RowKit
set_option linter.unusedVariables false

set_option maxHeartbeats 2000000 in
set_option maxRecDepth 100000 in
theorem bclone_c {D : Nat → Prop} {v : Value} {l : List Nat} {w : World} (h : Fct.at w D (.bs v l)) (hl : l.length ≤ 1000000) :
    Calls Try.prog 85 #[v] w fun e w' => (∃ ao k, e = .returned (.slice ao l.length k) ∧ Hid (Bs w' (fun b => D b ∨ w.heap.size ≤ b) (.slice ao l.length k) l)) ∧ Below w.heap.size w w' := by
  obtain ⟨ao, cap, rfl⟩ := Bs.len h
  have hu : ∀ u ∈ l, u < 256 := by obtain ⟨_, _, _, _, _, h4, _⟩ := h; exact h4
  have HU := Lib.hid hu; have HL := Lib.hid hl
  have q22 : ∀ (w : World) (a : Option Addr) (n c n' c' : Nat), (binOp .eql 22 (.slice a n c) (.slice none n' c')).run Try.prog w = .ok (.bool a.isNone) w := fun w a n c n' c' => Lib.run_eql_slice_nil w _ _ a n c n' c' Try.underlying22
  have E0 : Hid (Env D w [] [.bs (.slice ao l.length cap) l] w) := Lib.hid ((Env.start D w).arg _ h)
  cases ao with
  | none =>
    have h0 : l = [] := by
      apply Classical.byContradiction; intro hne
      obtain ⟨_, _, h1, _, _, _, h5, _⟩ := h
      cases h1
      obtain ⟨b, off, e, _⟩ := h5 hne; cases e
    subst h0
    clear h hu hl
    go_enter Try.func85, Try.ntmps85
    go_wp2
    go_ret
    exact ⟨⟨none, 0, rfl, Lib.hid (Bs.nil _ _)⟩, Below.refl _ _⟩
  | some a =>
    clear h hu hl
    go_enter Try.func85, Try.ntmps85
    have E1 : Hid (Env D w [(w.heap.size, 5, [])] [.bs (.slice (some a) l.length cap) l] _) := Lib.hid (E0.out.push 5 [] w.heap.size rfl)
    go_wp2_with (at_builtin; refine wpl_appN tiB rfl _ _ rfl E1.out (A := []) (sg := [(w.heap.size, 5, [])]) (B' := []) (n := 0) rfl (.inr ⟨w.heap.size, 0, rfl, rfl, Nat.le_refl _, by omega, rfl⟩) rfl rfl (Bs.src (E1.out.fc 0 rfl) rfl) (by have := HL.out; omega) ?_)
    intro sg v cs W hO hT hE
    try simp only [Nat.zero_add] at hO hT
    obtain ⟨vo, vk, rfl⟩ := hO.out.len
    clear E0 E1
    go_wp2
    go_ret
    exact ⟨⟨vo, vk, rfl, Lib.hid (OS.bs hO.out hE.out (by intro p hp; simp [hp]) (by simpa using hT.out) HU.out)⟩, hE.out.bel⟩
set_option maxRecDepth 100000 in
set_option maxHeartbeats 1000000 in
theorem copied_c {D : Nat → Prop} (M : Msg) {xa : Option Addr} {xk : Nat} {w : World} (hx : Fct.at w D (.bs (.slice xa M.body.length xk) M.body)) (hl : M.body.length ≤ 1000000) :
    Calls Try.prog 65 #[.agg #[.int .i64 M.fr, .int .i64 M.to_, .int .i64 M.kd, .int .i64 M.nm, .slice xa M.body.length xk]] w fun e w' => RetM (fun b => D b ∨ w.heap.size ≤ b) M e w' ∧ Below w.heap.size w w' := by
  have E0 : Hid (Env D w [] [.bs (.slice xa M.body.length xk) M.body] w) := Lib.hid ((Env.start D w).arg (.bs (.slice xa M.body.length xk) M.body) hx)
  clear hx
  go_enter Try.func65, Try.ntmps65
  have HL := Lib.hid hl
  clear hl
  go_wp2_with fail
  have E1 : Hid (Env D w [(w.heap.size + 1, 24, [.int .i64 0, .int .i64 0, .int .i64 0, .int .i64 0, .slice none 0 0]), (w.heap.size, 24, [.int .i64 M.fr, .int .i64 M.to_, .int .i64 M.kd, .int .i64 M.nm, .slice xa M.body.length xk])] [.bs (.slice xa M.body.length xk) M.body] _) := Lib.hid (((E0.out.push 24 [.int .i64 M.fr, .int .i64 M.to_, .int .i64 M.kd, .int .i64 M.nm, .slice xa M.body.length xk] (w.heap.size) (by simp)).push 24 [.int .i64 0, .int .i64 0, .int .i64 0, .int .i64 0, .slice none 0 0] (w.heap.size + 1) (by simp)))
  refine (bclone_c (E1.out.fc 0 rfl) HL.out).mono ?_
  rintro e w1 ⟨⟨va, vk, rfl, hv⟩, hb⟩
  have E2 : Hid (Env D w [(w.heap.size + 1, 24, [.int .i64 0, .int .i64 0, .int .i64 0, .int .i64 0, .slice none 0 0]), (w.heap.size, 24, [.int .i64 M.fr, .int .i64 M.to_, .int .i64 M.kd, .int .i64 M.nm, .slice xa M.body.length xk])] [.bs (.slice va M.body.length vk) M.body, .bs (.slice xa M.body.length xk) M.body] w1) := Lib.hid (E1.out.got (E1.out.below hb) (.bs (.slice va M.body.length vk) M.body) hv.out)
  clear E0 E1 hb hv
  have b1 := E2.out.bx 1 rfl
  have c1_4 := b1.cell 4 rfl
  have f1_4 := b1.frozen 4
  clear b1
  have E3 : Hid (Env D w [(w.heap.size + 1, 24, [.int .i64 0, .int .i64 0, .int .i64 0, .int .i64 0, .slice none 0 0]), (w.heap.size, 24, [.int .i64 M.fr, .int .i64 M.to_, .int .i64 M.kd, .int .i64 M.nm, .slice va M.body.length vk])] [.bs (.slice va M.body.length vk) M.body, .bs (.slice xa M.body.length xk) M.body] _) := Lib.hid ((E2.out.set 1 4 (.slice va M.body.length vk) rfl))
  have b2 := E3.out.bx 1 rfl
  have c2_0 := b2.cell 0 rfl
  have c2_1 := b2.cell 1 rfl
  have c2_2 := b2.cell 2 rfl
  have c2_3 := b2.cell 3 rfl
  have c2_4 := b2.cell 4 rfl
  clear b2
  have b3 := E3.out.bx 0 rfl
  have c3_0 := b3.cell 0 rfl
  have c3_1 := b3.cell 1 rfl
  have c3_2 := b3.cell 2 rfl
  have c3_3 := b3.cell 3 rfl
  have c3_4 := b3.cell 4 rfl
  have f3_0 := b3.frozen 0
  have f3_1 := b3.frozen 1
  have f3_2 := b3.frozen 2
  have f3_3 := b3.frozen 3
  have f3_4 := b3.frozen 4
  clear b3
  go_wp2
  have E4 : Hid (Env D w [(w.heap.size + 1, 24, [.int .i64 M.fr, .int .i64 M.to_, .int .i64 M.kd, .int .i64 M.nm, .slice va M.body.length vk]), (w.heap.size, 24, [.int .i64 M.fr, .int .i64 M.to_, .int .i64 M.kd, .int .i64 M.nm, .slice va M.body.length vk])] [.bs (.slice va M.body.length vk) M.body, .bs (.slice xa M.body.length xk) M.body] _) := Lib.hid ((((((E3.out.set 0 0 (.int .i64 M.fr) rfl).set 0 1 (.int .i64 M.to_) rfl).set 0 2 (.int .i64 M.kd) rfl).set 0 3 (.int .i64 M.nm) rfl).set 0 4 (.slice va M.body.length vk) rfl))
  have hfin := E4.out
  have q4 := (hfin.bx 0 rfl).cell 0 rfl
  have q5 := (hfin.bx 0 rfl).cell 1 rfl
  have q6 := (hfin.bx 0 rfl).cell 2 rfl
  have q7 := (hfin.bx 0 rfl).cell 3 rfl
  have q8 := (hfin.bx 0 rfl).cell 4 rfl
  exact bodyPost_ret (v := .agg #[.int .i64 M.fr, .int .i64 M.to_, .int .i64 M.kd, .int .i64 M.nm, .slice va M.body.length vk]) (by simp [results, Try.results65, go_sem, q4, q5, q6, q7, q8]) rfl ⟨⟨_, _, rfl, (Lib.hid (hfin.out 0 rfl))⟩, hfin.bel⟩
set_option maxRecDepth 100000 in
set_option maxHeartbeats 1000000 in
theorem rCopy_c {D : Nat → Prop} (M : Msg) {xa : Option Addr} {xk : Nat} {w : World} (hx : Fct.at w D (.bs (.slice xa M.body.length xk) M.body)) (hl : M.body.length ≤ 1000000) (hu0 : ∀ u ∈ M.body, u < 256) :
    Calls Try.prog 75 #[.agg #[.int .i64 M.fr, .int .i64 M.to_, .int .i64 M.kd, .int .i64 M.nm, .slice xa M.body.length xk]] w fun e w' => RetM (fun b => D b ∨ w.heap.size ≤ b) M e w' ∧ Below w.heap.size w w' := by
  have E0 : Hid (Env D w [] [.bs (.slice xa M.body.length xk) M.body] w) := Lib.hid ((Env.start D w).arg (.bs (.slice xa M.body.length xk) M.body) hx)
  clear hx
  go_enter Try.func75, Try.ntmps75
  have HL := Lib.hid hl
  clear hl
  have HU := Lib.hid hu0
  clear hu0
  have E1 : Hid (Env D w [(w.heap.size + 1 + 1, 5, []), (w.heap.size + 1, 24, [.int .i64 0, .int .i64 0, .int .i64 0, .int .i64 0, .slice none 0 0]), (w.heap.size, 24, [.int .i64 M.fr, .int .i64 M.to_, .int .i64 M.kd, .int .i64 M.nm, .slice xa M.body.length xk])] [.bs (.slice xa M.body.length xk) M.body] _) := Lib.hid ((((E0.out.push 24 [.int .i64 M.fr, .int .i64 M.to_, .int .i64 M.kd, .int .i64 M.nm, .slice xa M.body.length xk] (w.heap.size) (by simp)).push 24 [.int .i64 0, .int .i64 0, .int .i64 0, .int .i64 0, .slice none 0 0] (w.heap.size + 1) (by simp)).push 5 [] (w.heap.size + 1 + 1) (by simp)))
  go_wp2_with (at_builtin; refine wpl_appN tiB rfl _ _ rfl E1.out (A := []) (sg := [(w.heap.size + 1 + 1, 5, [])]) (B' := [(w.heap.size + 1, 24, [.int .i64 0, .int .i64 0, .int .i64 0, .int .i64 0, .slice none 0 0]), (w.heap.size, 24, [.int .i64 M.fr, .int .i64 M.to_, .int .i64 M.kd, .int .i64 M.nm, .slice xa M.body.length xk])]) (n := 0) rfl (.inr ⟨w.heap.size + 1 + 1, 0, rfl, rfl, Nat.le_refl _, by omega, rfl⟩) rfl rfl (Bs.src (E1.out.fc 0 rfl) rfl) (by have := HL.out; omega) ?_)
  intro sg v cs w1 hO hT hE0
  try simp only [Nat.zero_add] at hO hT
  obtain ⟨va, vk, rfl⟩ := hO.out.len
  have hbs : Hid (Bs w1 _ (.slice va M.body.length vk) M.body) := Lib.hid (OS.bs hO.out hE0.out (by intro p hp; simp [hp]) (by simpa using hT.out) HU.out)
  have E9 : Hid (Env D w ((w.heap.size + 1, 24, [.int .i64 0, .int .i64 0, .int .i64 0, .int .i64 0, .slice none 0 0]) :: (w.heap.size, 24, [.int .i64 M.fr, .int .i64 M.to_, .int .i64 M.kd, .int .i64 M.nm, .slice xa M.body.length xk]) :: sg) [.bs (.slice xa M.body.length xk) M.body] w1) := Lib.hid (hE0.out.perm (List.perm_append_comm))
  clear hE0 E1 
  have b1 := E9.out.bx 1 rfl
  have c1_4 := b1.cell 4 rfl
  have f1_4 := b1.frozen 4
  clear b1
  have E10 : Hid (Env D w ((w.heap.size + 1, 24, [.int .i64 0, .int .i64 0, .int .i64 0, .int .i64 0, .slice none 0 0]) :: (w.heap.size, 24, [.int .i64 M.fr, .int .i64 M.to_, .int .i64 M.kd, .int .i64 M.nm, .slice va M.body.length vk]) :: sg) [.bs (.slice xa M.body.length xk) M.body] _) := Lib.hid ((E9.out.set 1 4 (.slice va M.body.length vk) rfl))
  have b2 := E10.out.bx 1 rfl
  have c2_0 := b2.cell 0 rfl
  have c2_1 := b2.cell 1 rfl
  have c2_2 := b2.cell 2 rfl
  have c2_3 := b2.cell 3 rfl
  have c2_4 := b2.cell 4 rfl
  clear b2
  have b3 := E10.out.bx 0 rfl
  have c3_0 := b3.cell 0 rfl
  have c3_1 := b3.cell 1 rfl
  have c3_2 := b3.cell 2 rfl
  have c3_3 := b3.cell 3 rfl
  have c3_4 := b3.cell 4 rfl
  have f3_0 := b3.frozen 0
  have f3_1 := b3.frozen 1
  have f3_2 := b3.frozen 2
  have f3_3 := b3.frozen 3
  have f3_4 := b3.frozen 4
  clear b3
  go_wp2
  have E11 : Hid (Env D w ((w.heap.size + 1, 24, [.int .i64 M.fr, .int .i64 M.to_, .int .i64 M.kd, .int .i64 M.nm, .slice va M.body.length vk]) :: (w.heap.size, 24, [.int .i64 M.fr, .int .i64 M.to_, .int .i64 M.kd, .int .i64 M.nm, .slice va M.body.length vk]) :: sg) [.bs (.slice xa M.body.length xk) M.body] _) := Lib.hid ((((((E10.out.set 0 0 (.int .i64 M.fr) rfl).set 0 1 (.int .i64 M.to_) rfl).set 0 2 (.int .i64 M.kd) rfl).set 0 3 (.int .i64 M.nm) rfl).set 0 4 (.slice va M.body.length vk) rfl))
  have hfin := E11.out
  have q4 := (hfin.bx 0 rfl).cell 0 rfl
  have q5 := (hfin.bx 0 rfl).cell 1 rfl
  have q6 := (hfin.bx 0 rfl).cell 2 rfl
  have q7 := (hfin.bx 0 rfl).cell 3 rfl
  have q8 := (hfin.bx 0 rfl).cell 4 rfl
  exact bodyPost_ret (v := .agg #[.int .i64 M.fr, .int .i64 M.to_, .int .i64 M.kd, .int .i64 M.nm, .slice va M.body.length vk]) (by simp [results, Try.results75, go_sem, q4, q5, q6, q7, q8]) rfl ⟨⟨_, _, rfl, Lib.hid (OS.bs hO.out hfin (by intro p hp; simp [hp]) (by simpa using hT.out) HU.out)⟩, hfin.bel⟩
end Go.Proofs.Ytbcfcdcomboljaa

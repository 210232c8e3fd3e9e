/- copies of leaves and of hashes. -/
import Derived.Test.YtfnnfmefihiefaaSpG
namespace Go.Proofs.Ytfnnfmefihiefaa
open Go.RowKit
set_option linter.unusedVariables false
set_option linter.unusedSimpArgs false
theorem Try.infoLeaf : (Try.prog.info? 69).map (fun i => (i.zero, i.size, i.bytes)) = some (some (.agg #[.int .i64 0, .int .i64 0, .int .i64 0]), 3, 24) := by kernel_rfl
theorem Try.infoHash : (Try.prog.info? 27).map (fun i => (i.zero, i.size, i.bytes)) = some (some (.agg zHash.toArray), 32, 32) := by kernel_rfl
theorem Try.infoUse : (Try.prog.info? 44).map (fun i => (i.zero, i.size, i.bytes)) = some (some (.agg (usc zU nilV nilV).toArray), 83, 248) := by kernel_rfl
theorem tiLeaf : TI 36 69 3 := .ofInfo Try.underlying36 Try.infoLeaf rfl (by omega) (by omega)
theorem tiHash : TI 37 27 32 := .ofInfo Try.underlying37 Try.infoHash rfl (by omega) (by omega)
theorem tiUse : TI 23 44 83 := .ofInfo Try.underlying23 Try.infoUse (by show (usc zU nilV nilV).toArray.size = 83; rw [List.size_toArray, usc_len (u := zU) zS_ok]) (by omega) (by omega)
set_option maxHeartbeats 2000000 in
set_option maxRecDepth 100000 in
theorem cloneLv {D : Nat → Prop} {v : Value} {n : Nat} {xs : List Value} {w : World} (h : Rw w D v n 3 xs) (hl : n ≤ 1000000) :
    Calls Try.prog 57 #[v] w fun e w' => (∃ va vk, e = .returned (.slice va n vk) ∧ Hid (Rw w' (fun b => w.heap.size ≤ b) (.slice va n vk) n 3 xs)) ∧ Below w.heap.size w w' := by
  obtain ⟨ao, cap, rfl⟩ := h.len
  have HL := Lib.hid hl
  have HO : Hid (∀ u ∈ xs, u.oneCell' = true) := Lib.hid (by obtain ⟨_, _, _, _, _, _, h5, _⟩ := h; exact h5)
  have q22 : ∀ (w : World) (a : Option Addr) (n c n' c' : Nat), (binOp .eql 36 (.slice a n c) (.slice none n' c')).run Try.prog w = .ok (.bool a.isNone) w := fun w a n c n' c' => Lib.run_eql_slice_nil w _ _ a n c n' c' Try.underlying36
  have E0 : Hid (Env (fun _ => False) w [] [] w) := Lib.hid (Env.start _ w)
  have HR := Lib.hid h
  cases ao with
  | none =>
    have hn : n = 0 := by
      apply Classical.byContradiction; intro hne
      obtain ⟨_, _, h1, _, _, _, _, h6⟩ := h
      obtain ⟨b, off, e, _⟩ := h6 hne
      cases h1; cases e
    subst hn
    have hx : xs = [] := by obtain ⟨_, _, _, _, _, h4, _⟩ := h; exact List.length_eq_zero_iff.1 (h4.trans (Nat.zero_mul _))
    subst hx
    clear h hl
    go_enter Try.func57, Try.ntmps57
    go_wp2
    go_ret
    exact ⟨⟨none, 0, rfl, Lib.hid (Rw.nil _ _ _)⟩, Below.refl _ _⟩
  | some a =>
    clear h hl
    go_enter Try.func57, Try.ntmps57
    have E1 : Hid (Env (fun _ => False) w [(w.heap.size, 69, [])] [] _) := Lib.hid (E0.out.push 69 [] w.heap.size rfl)
    have ER : Hid (Env D w [(w.heap.size, 69, [])] [.rw (.slice (some a) n cap) n 3 xs] _) := Lib.hid (((Env.start D w).arg (.rw (.slice (some a) n cap) n 3 xs) HR.out).push 69 [] w.heap.size rfl)
    go_wp2_with (at_builtin; refine wpl_appN tiLeaf rfl _ _ rfl E1.out (A := []) (sg := [(w.heap.size, 69, [])]) (B' := []) (n := 0) rfl (.inr ⟨w.heap.size, 0, rfl, rfl, Nat.le_refl _, by omega, rfl⟩) rfl rfl (Rw.src (ER.out.fc 0 rfl)) (by have := HL.out; omega) ?_)
    intro sg v cs W hO hT hE
    try simp only [Nat.zero_add] at hO hT
    obtain ⟨vo, vk, rfl⟩ := hO.out.len
    have HF : Hid (Rw W (fun b => w.heap.size ≤ b) (.slice vo n vk) n 3 xs) := Lib.hid (Rw.turn (OS.rw hO.out hE.out (by intro p hp; simp [hp]) (by simpa using hT.out) HO.out) (Nat.le_refl _) (fun _ _ h => h.resolve_left id) (fun _ _ _ _ => rfl))
    clear E0 E1 ER
    go_wp2
    go_ret
    exact ⟨⟨vo, vk, rfl, HF⟩, hE.out.bel⟩
set_option maxHeartbeats 2000000 in
set_option maxRecDepth 100000 in
theorem cloneHs {D : Nat → Prop} {v : Value} {n : Nat} {xs : List Value} {w : World} (h : Rw w D v n 32 xs) (hl : n ≤ 1000000) :
    Calls Try.prog 58 #[v] w fun e w' => (∃ va vk, e = .returned (.slice va n vk) ∧ Hid (Rw w' (fun b => w.heap.size ≤ b) (.slice va n vk) n 32 xs)) ∧ Below w.heap.size w w' := by
  obtain ⟨ao, cap, rfl⟩ := h.len
  have HL := Lib.hid hl
  have HO : Hid (∀ u ∈ xs, u.oneCell' = true) := Lib.hid (by obtain ⟨_, _, _, _, _, _, h5, _⟩ := h; exact h5)
  have q22 : ∀ (w : World) (a : Option Addr) (n c n' c' : Nat), (binOp .eql 37 (.slice a n c) (.slice none n' c')).run Try.prog w = .ok (.bool a.isNone) w := fun w a n c n' c' => Lib.run_eql_slice_nil w _ _ a n c n' c' Try.underlying37
  have E0 : Hid (Env (fun _ => False) w [] [] w) := Lib.hid (Env.start _ w)
  have HR := Lib.hid h
  cases ao with
  | none =>
    have hn : n = 0 := by
      apply Classical.byContradiction; intro hne
      obtain ⟨_, _, h1, _, _, _, _, h6⟩ := h
      obtain ⟨b, off, e, _⟩ := h6 hne
      cases h1; cases e
    subst hn
    have hx : xs = [] := by obtain ⟨_, _, _, _, _, h4, _⟩ := h; exact List.length_eq_zero_iff.1 (h4.trans (Nat.zero_mul _))
    subst hx
    clear h hl
    go_enter Try.func58, Try.ntmps58
    go_wp2
    go_ret
    exact ⟨⟨none, 0, rfl, Lib.hid (Rw.nil _ _ _)⟩, Below.refl _ _⟩
  | some a =>
    clear h hl
    go_enter Try.func58, Try.ntmps58
    have E1 : Hid (Env (fun _ => False) w [(w.heap.size, 27, [])] [] _) := Lib.hid (E0.out.push 27 [] w.heap.size rfl)
    have ER : Hid (Env D w [(w.heap.size, 27, [])] [.rw (.slice (some a) n cap) n 32 xs] _) := Lib.hid (((Env.start D w).arg (.rw (.slice (some a) n cap) n 32 xs) HR.out).push 27 [] w.heap.size rfl)
    go_wp2_with (at_builtin; refine wpl_appN tiHash rfl _ _ rfl E1.out (A := []) (sg := [(w.heap.size, 27, [])]) (B' := []) (n := 0) rfl (.inr ⟨w.heap.size, 0, rfl, rfl, Nat.le_refl _, by omega, rfl⟩) rfl rfl (Rw.src (ER.out.fc 0 rfl)) (by have := HL.out; omega) ?_)
    intro sg v cs W hO hT hE
    try simp only [Nat.zero_add] at hO hT
    obtain ⟨vo, vk, rfl⟩ := hO.out.len
    have HF : Hid (Rw W (fun b => w.heap.size ≤ b) (.slice vo n vk) n 32 xs) := Lib.hid (Rw.turn (OS.rw hO.out hE.out (by intro p hp; simp [hp]) (by simpa using hT.out) HO.out) (Nat.le_refl _) (fun _ _ h => h.resolve_left id) (fun _ _ _ _ => rfl))
    clear E0 E1 ER
    go_wp2
    go_ret
    exact ⟨⟨vo, vk, rfl, HF⟩, hE.out.bel⟩
end Go.Proofs.Ytfnnfmefihiefaa

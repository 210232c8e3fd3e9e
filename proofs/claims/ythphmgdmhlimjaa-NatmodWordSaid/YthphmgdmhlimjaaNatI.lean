/- bits.Div32, short, Clone. -/
import Derived.Test.YthphmgdmhlimjaaNatH
import Derived.Test.YthphmgdmhlimjaaShelf
namespace Go.Proofs.Ythphmgdmhlimjaa
open Go.RowKit NatMath
set_option linter.unusedVariables false

theorem or_add (h l : Nat) (hl : l < 4294967296) : h * 4294967296 ||| l = h * 4294967296 + l := by
  have := Nat.shiftLeft_add_eq_or_of_lt (i := 32) (b := l) (by omega) h
  rw [Nat.shiftLeft_eq] at this
  exact this.symm

set_option maxHeartbeats 400000 in
theorem div32_c (h l y : Nat) (w : World) (hh : (h : Int) < 4294967296) (hl : (l : Int) < 4294967296) (hy : (y : Int) < 4294967296) (hr : h < y) :
    Calls Try.prog 86 #[.int .u32 h, .int .u32 l, .int .u32 y] w fun e w' => e = .returned (.tuple #[.int .u32 (((h * 4294967296 + l) / y : Nat) : Int), .int .u32 (((h * 4294967296 + l) % y : Nat) : Int)]) ∧ Qw w w' := by
  have g1 : ((y : Int) != 0) = true := by simp; omega
  have g2 : decide (y ≤ h) = false := decide_eq_false (by omega)
  have g3 : ((y : Int) == 0) = false := by simp; omega
  obtain ⟨z, hz⟩ : ∃ z, z = h * 4294967296 + l := ⟨_, rfl⟩
  obtain ⟨h2, hh2⟩ : ∃ h2, h2 = h * 4294967296 := ⟨_, rfl⟩
  have e1 : IntKind.u64.wrap ((h : Int) * 4294967296) = (h2 : Int) := by rw [IntKind.wrap_u64]; omega
  have e2 : bits .or .u64 (h2 : Int) (l : Int) = (z : Int) := by
    rw [bits_or_u64_nat _ _ (by omega) (by omega), hh2, or_add _ _ (by omega), hz]
  have hq : z / y < 4294967296 := by
    rw [Nat.div_lt_iff_lt_mul (by omega)]
    have : (h + 1) * 4294967296 ≤ y * 4294967296 := Nat.mul_le_mul_right _ (by omega)
    rw [Nat.mul_comm 4294967296 y] at *
    omega
  have hm : z % y < 4294967296 := by have := Nat.mod_lt z (show 0 < y by omega); omega
  rw [← hz]
  obtain ⟨q, hq'⟩ : ∃ q, q = z / y := ⟨_, rfl⟩
  obtain ⟨m, hm'⟩ : ∃ m, m = z % y := ⟨_, rfl⟩
  rw [← hq'] at hq ⊢
  rw [← hm'] at hm ⊢
  have e3 : IntKind.u32.wrap (q : Int) = (q : Int) := by rw [IntKind.wrap_u32]; omega
  have e4 : IntKind.u32.wrap (m : Int) = (m : Int) := by rw [IntKind.wrap_u32]; omega
  have e5 : (z : Int) / (y : Int) = (q : Int) := by rw [hq']; exact (Int.natCast_ediv z y).symm
  have e6 : (z : Int) % (y : Int) = (m : Int) := by rw [hm']; exact (Int.natCast_emod z y).symm
  clear hz hh2 hq' hm'
  go_enter Try.func86, Try.ntmps86
  go_wp2_with fail
  go_quiet (fail)
  go_wp2
  go_ret2
  exact ⟨rfl, Qw.drewN (Qw.refl _) _⟩

theorem Nt.set {w : World} {v : Value} {N n : Nat} (h : Nt w v N) (hf : Fr n v) {a : Addr} (ha : a.block < n) (Y : Value) : Nt (w.setCell a Y) v N := by
  obtain ⟨ao, cap, h1, h2, h3, h4, h5, h6⟩ := h
  refine ⟨ao, cap, h1, h2, h3, h4, fun hl => ?_, h6⟩
  obtain ⟨b, off, k1, k2, k3⟩ := h5 hl
  have hb : n ≤ b := by rw [h1, k1] at hf; exact hf _ _ _ rfl
  refine ⟨b, off, k1, by simpa using k2, fun i hi => ?_⟩
  rw [World.cell?_setCell_other _ _ _ _ (fun e => by rw [e] at ha; simp only at ha; omega)]
  exact k3 i hi

theorem NtU.set {w : World} {v : Value} {N n : Nat} (h : NtU w v N) (hf : Fr n v) {a : Addr} (ha : a.block < n) (Y : Value) : NtU (w.setCell a Y) v N := ⟨h.1.set hf ha Y, h.2.setCell _ _⟩

/-- what a law of the kit says of a row of one's own, of a number's words -/
theorem owned_number {w : World} {base N : Nat} {v : Value} (h : w.ownsRow base 49 1 v (len N) ((digs N).map fun (u : Nat) => Value.int .u32 (u : Int))) : NtU w v N ∧ Fr base v := by
  obtain ⟨_, ⟨rfl, h2⟩ | ⟨g, cap, cur, rfl, h3, h4, h5, h6, h7, h8⟩⟩ := h
  · rw [len_eq_zero.1 h2]
    exact ⟨NtU.zero _, by intro a k c e; simp at e⟩
  · refine ⟨⟨⟨_, cap, rfl, h5, h6, words_digs N, fun _ => ⟨g, 0, rfl, lt_of_block h4, fun i hi => ?_⟩, by rintro a ha; simp only [Option.some.injEq] at ha; rw [← ha]⟩, Uf.own (fun i => by simp [World.frozen?, h4]) rfl⟩, Fr.block h3⟩
    have e : cur[0 + i]? = ((digs N).map fun (u : Nat) => Value.int .u32 (u : Int))[i]? := by
      rw [← h8, Nat.zero_add, ← Array.getElem?_toList, List.getElem?_take, if_pos (by have : (digs N).length = len N := rfl; omega)]
    simp only [World.cell?, h4, Option.isSome_none, Bool.false_eq_true, if_false, e]
    rw [List.getElem?_map, List.getElem?_eq_getElem hi, List.getD_eq_getElem?_getD, List.getElem?_eq_getElem hi]
    rfl

theorem clone_some (b off cap N : Nat) (w : World) (h : Nt w (.slice (some ⟨b, off, none⟩) (len N) cap) N) (hN : len N ≤ 1000000) :
    Calls Try.prog 64 #[.slice (some ⟨b, off, none⟩) (len N) cap] w fun e w' => (∃ v', Hid (NtU w' v' N ∧ Fr w.heap.size v') ∧ e = .returned v') ∧ Below w.heap.size w w' := by
  obtain ⟨i0, hi, hz0, hz1, hz2⟩ := info_parts Try.info49
  have hl : ((digs N).map fun (u : Nat) => Value.int .u32 (u : Int)).length = len N * 1 := by rw [Nat.mul_one, List.length_map]; rfl
  have hc : ∀ j u, ((digs N).map fun (u : Nat) => Value.int .u32 (u : Int))[j]? = some u → w.cell? ⟨b, off + j, none⟩ = some u := by
    intro j u hu
    rw [List.getElem?_map] at hu
    obtain ⟨x, hx, rfl⟩ := Option.map_eq_some_iff.1 hu
    obtain ⟨ao, cap', e, _, _, h4, h5, _⟩ := h
    obtain ⟨b', off', k1, k2, k3⟩ := h5 (by intro e; rw [e] at hx; simp at hx)
    simp only [Value.slice.injEq, k1, Option.some.injEq, Addr.mk.injEq] at e
    obtain ⟨⟨rfl, rfl, _⟩, _, _⟩ := e
    have hj : j < (digs N).length := by
      apply Nat.lt_of_not_le; intro hh; rw [List.getElem?_eq_none hh] at hx; simp at hx
    rw [k3 j hj, List.getD_eq_getElem?_getD, hx]; rfl
  refine (Try.slices_Clone i0 _ 1 4 hi hz0 hz1 hz2 rfl (by omega) (fun w => ?_) b off (len N) cap _ w hl (by unfold maxLen; omega) (by omega) hc ?_).mono ?_
  · exact Try.sizeOf49 ..
  · intro u hu
    obtain ⟨x, _, rfl⟩ := List.mem_map.1 hu
    rfl
  · rintro e w' ⟨v', rfl, h1, h2, h3⟩
    exact ⟨⟨v', Lib.hid (owned_number h1), rfl⟩, h3⟩

/-- slices.Clone, of a number -/
theorem Clone_cU (v : Value) (N : Nat) (w : World) (h : Nt w v N) (hN : len N ≤ 1000000) :
    Calls Try.prog 64 #[v] w fun e w' => (∃ v', Hid (NtU w' v' N ∧ Fr w.heap.size v') ∧ e = .returned v') ∧ Below w.heap.size w w' := by
  obtain ⟨ao, cap, rfl, h1, h2, h3⟩ := h.open
  by_cases h0 : N = 0
  · subst h0
    cases ao with
    | none =>
      rw [len_zero]
      refine (Try.slices_Clone_nil 0 cap w).mono ?_
      rintro e w' ⟨rfl, rfl⟩
      exact ⟨⟨_, Lib.hid ⟨NtU.zero _, by intro a k c e; simp at e⟩, rfl⟩, Below.refl _ _⟩
    | some a =>
      obtain ⟨b, off, rfl⟩ : ∃ b off, a = ⟨b, off, none⟩ := by
        obtain ⟨b, off, sp⟩ := a
        obtain ⟨ao', cap', e, _, _, _, _, h6⟩ := h
        simp only [Value.slice.injEq] at e
        have := h6 _ e.1.symm
        simp only at this
        exact ⟨b, off, by rw [this]⟩
      exact clone_some b off cap 0 w h (by omega)
  · obtain ⟨b, off, rfl, _⟩ := h3 h0
    exact clone_some b off cap N w h hN
/-- slices.Clone, of a number -/
theorem Clone_c (v : Value) (N : Nat) (w : World) (h : Nt w v N) (hN : len N ≤ 1000000) :
    Calls Try.prog 64 #[v] w fun e w' => (∃ v', Hid (Nt w' v' N ∧ Fr w.heap.size v') ∧ e = .returned v') ∧ Below w.heap.size w w' :=
  (Clone_cU v N w h hN).mono fun _ _ h => ⟨by obtain ⟨v, hv, he⟩ := h.1; exact ⟨v, Lib.hid ⟨hv.out.1.1, hv.out.2⟩, he⟩, h.2⟩
end Go.Proofs.Ythphmgdmhlimjaa

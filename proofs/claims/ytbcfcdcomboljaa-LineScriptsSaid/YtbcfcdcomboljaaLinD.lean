/- slices.Delete of one element of a list of the call's own, at []api.Message (printed by Del.py). -/
import Derived.Test.YtbcfcdcomboljaaSesM
import Derived.Deep.RegionLaw
namespace Go.Proofs.Ytbcfcdcomboljaa
open Go.RowKit
set_option linter.unusedVariables false
theorem zcellsM : (Builtin.zeroCells (mzero).cells 1).toList = (mzero).cells.toList := by kernel_rfl
theorem zrunM (w : World) : (zeroValue 24).run Try.prog w = .ok mzero w := by kernel_rfl
/-- clear of one element -/
theorem clear_oneM (w : World) (ty : TypeId) (b o c : Nat) (hc : ∀ j, j < 5 → (w.cell? ⟨b, o + j, none⟩).isSome = true) (hf : ∀ j, j < 5 → w.frozen? ⟨b, o + j, none⟩ = false) :
    (Builtin.clear_ #[25] ty #[.slice (some ⟨b, o, none⟩) 1 c]).run Try.prog w = .ok (.tuple #[]) (w.setCells b o (mzero).cells.toList) := by
  have hst := run_storeCells_cells (P := Try.prog) b o (mzero).cells.toList 0 w (fun j hj => by have := hc j hj; simpa using this) (fun j hj => by have := hf j hj; simpa using this) (by decide)
  simp only [Nat.add_zero] at hst
  simp only [Builtin.clear_, Sem.run_bind, Sem.run_pure, Result.andThen_ok, run_underlying Try.underlying25, zrunM, zcellsM, hst, List.getElem?_toArray, List.getElem?_cons_zero]
/-- what stands behind Delete -/
theorem del_takeM {cs z : List Value} {m i : Nat} (hz : z.length = 5) (hi : i ≤ m) (hc : (m + 1) * 5 ≤ cs.length) :
    (setL (setL cs (i * 5) ((cs.take ((m + 1) * 5)).drop ((i + 1) * 5))) (m * 5) z).take (m * 5) = cs.take (i * 5) ++ (cs.take ((m + 1) * 5)).drop ((i + 1) * 5) := by
  have hd : ((cs.take ((m + 1) * 5)).drop ((i + 1) * 5)).length = (m + 1) * 5 - (i + 1) * 5 := by simp; omega
  apply List.ext_getElem?
  intro j
  rw [List.getElem?_take]
  by_cases hj : j < m * 5
  · rw [if_pos hj, setL_get _ _ _ _ (by rw [setL_length, hz]; omega), if_neg (by omega), setL_get _ _ _ _ (by rw [hd]; omega), hd]
    by_cases h1 : j < i * 5
    · rw [if_neg (by omega), List.getElem?_append_left (by simp; omega), List.getElem?_take, if_pos h1]
    · rw [if_pos (by omega), List.getElem?_append_right (by simp; omega)]
      congr 1; simp; omega
  · rw [if_neg hj, List.getElem?_eq_none]
    simp; omega
/-- a list of the call's own came back, one element shorter -/
def RetDM (g m cap : Nat) (xs : List Value) (w : World) (e : Ending) (w' : World) : Prop := ∃ (cs' : List Value), e = .returned (.slice (some ⟨g, 0, none⟩) m cap) ∧ cs'.length = cap * 5 ∧ w'.heap[g]? = some (.cells cs'.toArray 24 (0, 0)) ∧ cs'.take (m * 5) = xs ∧ Off g w w'
set_option maxHeartbeats 800000 in
set_option maxRecDepth 1000000 in
theorem deleteM {B g m cap i : Nat} {cs : List Value} {w : World} (hX : Box B g 24 cs w) (hl : cs.length = cap * 5) (hm : cap ≤ 9223372036854775807) (hi : i ≤ m) (hnc : m + 1 ≤ cap) (h1c : ∀ u ∈ cs.take ((m + 1) * 5), u.oneCell' = true) :
    Calls Try.prog 68 #[.slice (some ⟨g, 0, none⟩) (m + 1) cap, .int .i64 (i : Int), .int .i64 ((i : Int) + 1)] w fun e w' => RetDM g m cap (cs.take (i * 5) ++ (cs.take ((m + 1) * 5)).drop ((i + 1) * 5)) w e w' := by
  obtain ⟨i0, hi0, z0, z1, z2⟩ := infoM_open
  obtain ⟨news, hnews⟩ : ∃ news, news = (cs.take ((m + 1) * 5)).drop ((i + 1) * 5) := ⟨_, rfl⟩
  have hlen : news.length = (m - i) * 5 := by rw [hnews]; simp; omega
  have hXd : Box B g 24 cs w.drew := ⟨hX.1, hX.2⟩
  have hget : ∀ t u, news[t]? = some u → w.drew.cell? ⟨g, (i + 1) * 5 + t, none⟩ = some u := by
    intro t u hu
    rw [hnews, List.getElem?_drop, List.getElem?_take] at hu
    split at hu
    · exact hXd.cell _ hu
    · cases hu
  obtain ⟨A, hA, hsrc⟩ : ∃ A : Addr, (if cap = i + 1 then some (⟨g, 0, none⟩ : Addr) else some ⟨g, (i + 1) * 5, none⟩) = some A ∧ Hid (∀ t u, news[t]? = some u → w.drew.cell? (A.add t) = some u) := by
    by_cases h : cap = i + 1
    · refine ⟨⟨g, 0, none⟩, by simp [h], fun t u hu => ?_⟩
      have h0 : news = [] := List.length_eq_zero_iff.1 (by rw [hlen]; omega)
      rw [h0] at hu
      simp at hu
    · refine ⟨⟨g, (i + 1) * 5, none⟩, by simp [h], fun t u hu => ?_⟩
      rw [Addr.add_lit]; exact hget t u hu
  have s1 : Hid (news.length = (m - i) * 5) := Lib.hid (by simpa using hlen)
  have s2 : Hid (∀ u ∈ news, u.oneCell' = true) := fun u hu => h1c u (by rw [hnews] at hu; exact List.mem_of_mem_drop hu)
  have hsome : ∀ j, j < cs.length → (w.drew.cell? ⟨g, j, none⟩).isSome = true := fun j hj => by rw [hXd.cell j (List.getElem?_eq_getElem hj)]; rfl
  have s3 : Hid (∀ t, t < news.length → (w.drew.cell? ⟨g, 0 + i * 5 + t, none⟩).isSome = true ∧ w.drew.frozen? ⟨g, 0 + i * 5 + t, none⟩ = false) := by
    intro t ht
    rw [hlen] at ht
    exact ⟨hsome _ (by omega), hXd.frozen _⟩
  obtain ⟨W1, hW1⟩ : ∃ W1, W1 = w.drew.setCells g (0 + i * 5) news := ⟨_, rfl⟩
  have hX1 : Box B g 24 (setL cs (i * 5) news) W1 := by rw [hW1, Nat.zero_add]; exact hXd.setCells _ _ _
  have hcl : ∀ ty c, (Builtin.clear_ #[25] ty #[.slice (some ⟨g, m * 5, none⟩) 1 c]).run Try.prog W1 = .ok (.tuple #[]) (W1.setCells g (m * 5) (mzero).cells.toList) := fun ty c =>
    clear_oneM W1 ty g (m * 5) c (fun j hj => by
      obtain ⟨x, hx⟩ : ∃ x, (setL cs (i * 5) news)[m * 5 + j]? = some x := ⟨_, List.getElem?_eq_getElem (by rw [setL_length]; omega)⟩
      rw [hX1.cell _ hx]; rfl) (fun j hj => hX1.frozen _)
  have hW : Hid (W1 = w.drew.setCells g (0 + i * 5) news) := Lib.hid (by simpa using hW1)
  have hX2 : Box B g 24 (setL (setL cs (i * 5) news) (m * 5) (mzero).cells.toList) (W1.setCells g (m * 5) (mzero).cells.toList) := hX1.setCells _ _ _
  have hoff : Off g w (W1.setCells g (m * 5) (mzero).cells.toList) := by
    refine Off.sets _ _ _ ?_
    rw [hW1]
    exact Off.sets _ _ _ ⟨rfl, rfl, rfl, Nat.le_refl _, fun _ _ _ => rfl⟩
  have FIN : Hid ((setL (setL cs (i * 5) news) (m * 5) (mzero).cells.toList).length = cap * 5 ∧ (W1.setCells g (m * 5) (mzero).cells.toList).heap[g]? = some (.cells (setL (setL cs (i * 5) news) (m * 5) (mzero).cells.toList).toArray 24 (0, 0)) ∧ (setL (setL cs (i * 5) news) (m * 5) (mzero).cells.toList).take (m * 5) = cs.take (i * 5) ++ (cs.take ((m + 1) * 5)).drop ((i + 1) * 5) ∧ Off g w (W1.setCells g (m * 5) (mzero).cells.toList)) :=
    Lib.hid ⟨by rw [setL_length, setL_length]; exact hl, hX2.2, by rw [hnews]; exact del_takeM rfl hi (by omega), hoff⟩
  have CL := Lib.hid hcl
  have HI := Lib.hid hi0; have Z1 := Lib.hid z1
  have hic : i ≤ cap := by omega
  have hjc : i + 1 ≤ cap := by omega
  have hij : ¬ ((i : Int) = (i : Int) + 1) := by omega
  have htn : ((i : Int) + 1).toNat = i + 1 := by omega
  have hb1 : (0 : Int) ≤ (i : Int) + 1 := by omega
  have hb2 : (i : Int) + 1 ≤ (m : Int) + 1 := by omega
  have hmi : m + 1 - (i + 1) = m - i := by omega
  have him : i + (m - i) = m := by omega
  have hmm : m + 1 - m = 1 := by omega
  clear hW1 hX1 hX2 hX hXd hget hnews hlen hsome hcl hoff h1c hi0 z0 z1 z2 hl
  have mixed : Try.prog.follows .mixedOrders = true := by kernel_rfl
  go_enter Try.func68, Try.ntmps68
  go_wp2_with fail
  go_region_law_o (refine step_append_room rfl (.tmp 22) (.tmp 25) 25 rfl 24 i0 5 Try.underlying25 HI.out Z1.out g 0 i cap (by simp [Act.eval, Act.put]) A (m - i) (cap - (i + 1)) news (by simp [Act.eval, Act.put]) s1.out hsrc.out s2.out (by omega) s3.out ?_; rw [← hW.out])
  go_wp2_with fail
  have HF := Lib.hid FIN
  clear FIN s1 s2 s3 hsrc hA HI Z1 hW
  rw [CL.out]
  clear CL
  generalize W1.setCells g (m * 5) (mzero).cells.toList = W2 at *
  go_wp2
  go_ret
  exact ⟨_, rfl, HF.out.out⟩
end Go.Proofs.Ytbcfcdcomboljaa

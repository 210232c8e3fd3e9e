/- Messages and sessions that came in as arguments: opened. -/
import Derived.Test.YtbcfcdcomboljaaRows
import Derived.Test.YtbcfcdcomboljaaSesA
import Derived.ProofKit
import Derived.OpenShut
import Derived.ShutString
import Derived.ChangeOld
import Derived.Below
import Derived.Carry
import Derived.Deep.Slices
import Derived.Deep.Fields
namespace Go.Proofs.Ytbcfcdcomboljaa
open Go.ChangeShapes Go.WideShapes Go.ChangeAt Go.RowKit Go.Deep
set_option linter.unusedVariables false

theorem own : ownKnob Try.prog.godebug = none := by kernel_rfl
theorem laidOut : laidOutB Try.prog = true := by kernel_rfl
theorem cell_spot {W : World} {x : Addr} {v : Value} (h : W.cell? x = some v) : x.spot = none := by
  unfold World.cell? at h
  split at h
  · split at h
    · cases h
    · rename_i hn; cases hs : x.spot with
      | none => rfl
      | some s => rw [hs] at hn; simp at hn
  · cases h
section
variable {H : Type} {enc : TypeId × Value → H} {W : World}
theorem open_bytes {n : Nat} {c0 : Value} {y : DataW H × List MemPlace} (h : DataW.trod enc Try.prog W 0 (fun _ => true) true n 22 [c0] = some y) : ∃ l, Bs W (fun _ => True) c0 l := by
  rcases open_ints Try.underlying22 Try.underlying5 (by kernel_rfl) h with ⟨hcs, _⟩ | ⟨x, l, c, zs, hcs, _, hl, hm, hz, _, hcell, hwz⟩
  · simp only [List.cons.injEq, and_true] at hcs
    exact ⟨[], by rw [hcs]; exact Bs.nil W _⟩
  · simp only [List.cons.injEq, and_true] at hcs
    subst hcs
    have hzl : zs.length = c := by simpa using hz
    have hwf : ∀ n ∈ zs, 0 ≤ n ∧ n < 256 := by
      intro n hn
      have := hwz n hn
      simp only [Lit.wf, Bool.and_eq_true, decide_eq_true_eq] at this
      have e1 : IntKind.u8.min = 0 := by rfl
      have e2 : IntKind.u8.max = 255 := by rfl
      rw [e1, e2] at this
      omega
    refine ⟨(zs.take l).map Int.toNat, some x, c, by simp; omega, by simp; omega, by unfold maxLen at hm; omega, ?_, ?_, trivial⟩
    · intro u hu
      obtain ⟨z, hz1, rfl⟩ := List.mem_map.1 hu
      have := hwf z (List.mem_of_mem_take hz1)
      omega
    · intro hne
      have hlpos : 0 < l := by
        rcases Nat.eq_zero_or_pos l with h | h
        · subst h; simp at hne
        · exact h
      have hc0 := hcell 0 (by omega)
      have hsp := cell_spot hc0
      obtain ⟨b, off, sp⟩ := x
      simp only [Addr.add] at hsp
      subst hsp
      refine ⟨b, off, rfl, ⟨World.block_lt_of_cell? W _ (by simpa [Addr.add] using hc0), trivial⟩, fun i hi => ?_⟩
      simp at hi
      have h3 := hcell i (by omega)
      have e4 : (⟨b, off, none⟩ : Addr).add i = ⟨b, off + i, none⟩ := by simp [Addr.add]
      rw [e4] at h3
      rw [h3]
      have h4 := hwf (zs.getD i 0) (by rw [List.getD_eq_getElem?_getD, List.getElem?_eq_getElem (by omega)]; exact List.getElem_mem _)
      have hil : i < l := by omega
      have e5 : ((zs.take l).map Int.toNat).getD i 0 = (zs.getD i 0).toNat := by
        simp [List.getD_eq_getElem?_getD, hil, List.getElem?_eq_getElem (show i < zs.length by omega)]
      rw [e5]
      congr 2
      omega
theorem cells_int : Try.prog.cellsOf 3 = 1 := by kernel_rfl
theorem cells_bool : Try.prog.cellsOf 4 = 1 := by kernel_rfl
theorem cells_b8 : Try.prog.cellsOf 22 = 1 := by kernel_rfl
theorem cells_ms : Try.prog.cellsOf 25 = 1 := by kernel_rfl
theorem cells_m : Try.prog.cellsOf 24 = 5 := by kernel_rfl
theorem cells_s : Try.prog.cellsOf 27 = 9 := by kernel_rfl
set_option maxRecDepth 100000 in
theorem trod_msg {fuel : Nat} {cs : List Value} {x : DataW H × List MemPlace} (h : DataW.trod enc Try.prog W 0 (fun _ => true) true fuel 24 cs = some x) : ∃ (M : Msg) (c4 : Value), cs = [.int .i64 M.fr, .int .i64 M.to_, .int .i64 M.kd, .int .i64 M.nm, c4] ∧ Bs W (fun _ => True) c4 M.body := by
  obtain ⟨xs, n, rfl, hx, hcl, hlen, hg⟩ := DataW.trod_struct Try.underlying24 h
  rw [cells_m] at hcl
  match cs, hcl with
  | [c0, c1, c2, c3, c4], _ =>
    match xs, hlen with
    | [y0, y1, y2, y3, y4], _ =>
      have g0 : DataW.trod enc Try.prog W 0 (fun _ => true) true n 3 [c0] = some y0 := by have := hg 0 _ rfl; simpa [cells_int] using this
      have g1 : DataW.trod enc Try.prog W 0 (fun _ => true) true n 3 [c1] = some y1 := by have := hg 1 _ rfl; simpa [cells_int] using this
      have g2 : DataW.trod enc Try.prog W 0 (fun _ => true) true n 3 [c2] = some y2 := by have := hg 2 _ rfl; simpa [cells_int] using this
      have g3 : DataW.trod enc Try.prog W 0 (fun _ => true) true n 3 [c3] = some y3 := by have := hg 3 _ rfl; simpa [cells_int] using this
      have g4 : DataW.trod enc Try.prog W 0 (fun _ => true) true n 22 [c4] = some y4 := by have := hg 4 _ rfl; simpa [cells_b8] using this
      obtain ⟨a0, e0, _, _⟩ := DataW.trod_int Try.underlying3 g0
      obtain ⟨a1, e1, _, _⟩ := DataW.trod_int Try.underlying3 g1
      obtain ⟨a2, e2, _, _⟩ := DataW.trod_int Try.underlying3 g2
      obtain ⟨a3, e3, _, _⟩ := DataW.trod_int Try.underlying3 g3
      obtain ⟨l, hl⟩ := open_bytes g4
      simp only [List.cons.injEq, and_true] at e0 e1 e2 e3
      subst e0 e1 e2 e3
      exact ⟨⟨a0, a1, a2, a3, l⟩, c4, rfl, hl⟩
set_option maxRecDepth 100000 in
theorem open_msgs {fuel : Nat} {c0 : Value} {x : DataW H × List MemPlace} (h : DataW.trod enc Try.prog W 0 (fun _ => true) true fuel 25 [c0] = some x) : ∃ L, Ms W (fun _ => True) c0 L := by
  rcases open_slice Try.underlying25 h with ⟨hcs, _⟩ | ⟨a, len, cap, m, n, Dd, Pl, hcs, _, hl, hm, hmm, _, hi⟩
  · simp only [List.cons.injEq, and_true] at hcs
    exact ⟨[], by rw [hcs]; exact Ms.nil W _⟩
  · simp only [List.cons.injEq, and_true] at hcs
    subst hcs
    have hmc : m = cap := by simpa using hmm
    subst hmc
    have hex : ∀ i, ∃ M : Msg, i < m → a.spot = none ∧ MsAt W (fun _ => True) a.block (a.off + i * 5) M := by
      intro i
      by_cases him : i < m
      · obtain ⟨cs', hc, ht⟩ := hi i him
        rw [cells_m] at hc
        obtain ⟨_, hcl, hat⟩ := World.cells?_some hc
        obtain ⟨M, c4, rfl, hb⟩ := trod_msg ht
        refine ⟨M, fun _ => ?_⟩
        have hsp : a.spot = none := by
          obtain ⟨cs0, hc0, ht0⟩ := hi 0 (by omega)
          rw [cells_m] at hc0
          obtain ⟨_, _, hat0⟩ := World.cells?_some hc0
          obtain ⟨M0, c40, rfl, _⟩ := trod_msg ht0
          have k0 := hat0 0 (by simp)
          have := cell_spot (k0.trans rfl)
          simpa [Addr.add] using this
        obtain ⟨b, off, sp⟩ := a
        simp only at hsp
        subst hsp
        have k : ∀ j, j < 5 → W.cell? ⟨b, off + i * 5 + j, none⟩ = [Value.int .i64 M.fr, .int .i64 M.to_, .int .i64 M.kd, .int .i64 M.nm, c4][j]? := by
          intro j hj
          have := hat j (by simpa using hj)
          rw [Addr.add_lit, Addr.add_lit] at this
          exact this
        exact ⟨rfl, k 0 (by omega), k 1 (by omega), k 2 (by omega), k 3 (by omega), c4, k 4 (by omega), hb⟩
      · exact ⟨⟨0, 0, 0, 0, []⟩, fun h => absurd h him⟩
    obtain ⟨f, hf⟩ := Classical.axiomOfChoice hex
    refine ⟨(List.range len).map f, some a, m, by simp, by simpa using hl, by unfold maxLen at hm; omega, fun hne => ?_, trivial⟩
    have hlpos : 0 < len := by
      rcases Nat.eq_zero_or_pos len with h | h
      · subst h; simp at hne
      · exact h
    obtain ⟨hsp, h1, _⟩ := hf 0 (by omega)
    have hall := fun i hi => (hf i hi).2
    obtain ⟨b, off, sp⟩ := a
    simp only at hsp
    subst hsp
    refine ⟨b, off, rfl, ⟨World.block_lt_of_cell? W _ h1, trivial⟩, fun i M hM => ?_⟩
    simp only [List.getElem?_map, Option.map_eq_some_iff] at hM
    obtain ⟨j, hj, rfl⟩ := hM
    obtain ⟨hj1, hj2⟩ := List.getElem?_eq_some_iff.1 hj
    simp at hj1 hj2
    subst hj2
    exact hall i (by omega)
set_option maxRecDepth 100000 in
theorem open_msg {r : Reach} {base : Nat} {v : Value} {d : DataW H} {p : List MemPlace} (hv : Value.okWide Try.prog W r base 24 v) (h : DataW.Trod enc Try.prog W 0 (fun _ => true) true 24 v d p) :
    ∃ (M : Msg) (ya : Option Addr) (yk : Nat), v = .agg #[.int .i64 M.fr, .int .i64 M.to_, .int .i64 M.kd, .int .i64 M.nm, .slice ya M.body.length yk] ∧ Fct.at W (fun _ => True) (.bs (.slice ya M.body.length yk) M.body) := by
  obtain ⟨cs, rfl, hsz⟩ := okWide_struct Try.underlying24 hv
  obtain ⟨fuel, hf⟩ := h
  obtain ⟨M, c4, e, hb⟩ := trod_msg hf
  obtain ⟨ya, yk, rfl⟩ := hb.len
  refine ⟨M, ya, yk, ?_, hb⟩
  have e' : cs.toList = _ := e
  rw [← Array.toArray_toList (xs := cs), e']
set_option maxRecDepth 100000 in
theorem open_ses {r : Reach} {base : Nat} {v : Value} {d : DataW H} {p : List MemPlace} (hv : Value.okWide Try.prog W r base 27 v) (h : DataW.Trod enc Try.prog W 0 (fun _ => true) true 27 v d p) :
    ∃ (S : Ses) (xa : Option Addr) (xk : Nat) (da : Option Addr) (dj : Nat), v = .agg #[.int .i64 S.nx, .bool S.wt, .int .i64 S.rq.fr, .int .i64 S.rq.to_, .int .i64 S.rq.kd, .int .i64 S.rq.nm, .slice xa S.rq.body.length xk, .slice da S.dn.length dj, .int .i64 S.tr] ∧ Fct.at W (fun _ => True) (.bs (.slice xa S.rq.body.length xk) S.rq.body) ∧ Fct.at W (fun _ => True) (.ms (.slice da S.dn.length dj) S.dn) := by
  obtain ⟨cs, rfl, hsz⟩ := okWide_struct Try.underlying27 hv
  obtain ⟨fuel, hf⟩ := h
  obtain ⟨xs, n, rfl, hx, hcl, hlen, hg⟩ := DataW.trod_struct Try.underlying27 hf
  rw [cells_s] at hcl
  have hcs : cs = cs.toList.toArray := Array.toArray_toList.symm
  have hcl' : cs.toList.length = 9 := hcl
  have hg' : ∀ (i : Nat) (f : Field), _ → DataW.trod enc Try.prog W 0 (fun _ => true) true n f.type ((cs.toList.drop f.offset).take (Try.prog.cellsOf f.type)) = xs[i]? := hg
  rw [hcs]
  generalize cs.toList = l at *
  match l, hcl' with
  | [c0, c1, c2, c3, c4, c5, c6, c7, c8], _ =>
    match xs, hlen with
    | [y0, y1, y2, y3, y4], _ =>
      have g0 : DataW.trod enc Try.prog W 0 (fun _ => true) true n 3 [c0] = some y0 := by have := hg' 0 _ rfl; simpa [cells_int] using this
      have g1 : DataW.trod enc Try.prog W 0 (fun _ => true) true n 4 [c1] = some y1 := by have := hg' 1 _ rfl; simpa [cells_bool] using this
      have g2 : DataW.trod enc Try.prog W 0 (fun _ => true) true n 24 [c2, c3, c4, c5, c6] = some y2 := by have := hg' 2 _ rfl; simpa [cells_m] using this
      have g3 : DataW.trod enc Try.prog W 0 (fun _ => true) true n 25 [c7] = some y3 := by have := hg' 3 _ rfl; simpa [cells_ms] using this
      have g4 : DataW.trod enc Try.prog W 0 (fun _ => true) true n 3 [c8] = some y4 := by have := hg' 4 _ rfl; simpa [cells_int] using this
      obtain ⟨a0, e0, _, _⟩ := DataW.trod_int Try.underlying3 g0
      obtain ⟨t1, e1, _⟩ := DataW.trod_bool Try.underlying4 g1
      obtain ⟨M, c6', e2, hb⟩ := trod_msg g2
      obtain ⟨L, hL⟩ := open_msgs g3
      obtain ⟨a4, e4, _, _⟩ := DataW.trod_int Try.underlying3 g4
      obtain ⟨xa, xk, rfl⟩ := hb.len
      obtain ⟨da, dj, rfl⟩ := hL.len
      simp only [List.cons.injEq, and_true] at e0 e1 e2 e4
      obtain ⟨e21, e22, e23, e24, e25⟩ := e2
      subst e0 e1 e4 e21 e22 e23 e24 e25
      exact ⟨⟨a0, t1, M, L, a4⟩, xa, xk, da, dj, rfl, hb, hL⟩
end
end Go.Proofs.Ytbcfcdcomboljaa

/- Tables, spends and lists of spends that came in as arguments: opened. -/
import Derived.Test.YtfnnfmefihiefaaRows
import Derived.Test.YtfnnfmefihiefaaSpL
import Derived.ProofKit
import Derived.OpenShut
import Derived.ShutString
import Derived.ChangeOld
import Derived.Below
import Derived.Carry
import Derived.Deep.Slices
import Derived.Deep.Fields
import Derived.MapViews
namespace Go.Proofs.Ytfnnfmefihiefaa
open Go.ChangeShapes Go.WideShapes Go.ChangeAt Go.RowKit Go.Deep
set_option linter.unusedVariables false
set_option linter.unusedSimpArgs false
theorem own : ownKnob Try.prog.godebug = none := by kernel_rfl
theorem laidOut : laidOutB Try.prog = true := by kernel_rfl
theorem cell_spot {W : World} {x : Addr} {v : Value} (h : W.cell? x = some v) : x.spot = none := by
  unfold World.cell? at h
  split at h
  · split at h
    · cases h
    · rename_i hn; cases hs : x.spot with
      | none => rfl
      | some s => rw [hs] at hn; simp at hn
  · cases h
section
variable {H : Type} {enc : TypeId × Value → H} {W : World}
/-- a slice of elements of k cells -/
theorem open_rows {sl T : TypeId} {k : Nat} {α : Type} (d : α) (cells : α → List Value) (P : α → Prop) (hu : Try.prog.underlying sl = some (.slice T)) (hk : Try.prog.cellsOf T = k) (hk0 : 0 < k)
    (el : ∀ {fuel : Nat} {cs : List Value} {x : DataW H × List MemPlace}, DataW.trod enc Try.prog W 0 (fun _ => true) true fuel T cs = some x → ∃ a : α, cs = cells a ∧ P a) (hone : ∀ a, P a → ∀ u ∈ cells a, u.oneCell' = true) (hlen : ∀ a, P a → (cells a).length = k)
    {fuel : Nat} {c0 : Value} {x : DataW H × List MemPlace} (h : DataW.trod enc Try.prog W 0 (fun _ => true) true fuel sl [c0] = some x) : ∃ L : List α, Rw W (fun _ => True) c0 L.length k (L.map cells).flatten ∧ ∀ a ∈ L, P a := by
  rcases open_slice hu h with ⟨hcs, _⟩ | ⟨a, len, cap, m, n, Dd, Pl, hcs, _, hl, hm, hmm, _, hi⟩
  · simp only [List.cons.injEq, and_true] at hcs
    exact ⟨[], by rw [hcs]; exact Rw.nil W _ _, fun a ha => by cases ha⟩
  · simp only [List.cons.injEq, and_true] at hcs
    subst hcs
    have hmc : m = cap := by simpa using hmm
    subst hmc
    have hex : ∀ i, ∃ q : α, i < m → a.spot = none ∧ P q ∧ ∀ j v, (cells q)[j]? = some v → W.cell? ⟨a.block, a.off + i * k + j, none⟩ = some v := by
      intro i
      by_cases him : i < m
      · obtain ⟨cs', hc, ht⟩ := hi i him
        rw [hk] at hc
        obtain ⟨_, hcl, hat⟩ := World.cells?_some hc
        obtain ⟨q, rfl, hp⟩ := el ht
        have hsp : a.spot = none := by
          obtain ⟨cs0, hc0, ht0⟩ := hi 0 (by omega)
          rw [hk] at hc0
          obtain ⟨_, _, hat0⟩ := World.cells?_some hc0
          obtain ⟨q0, rfl, hp0⟩ := el ht0
          have hv := List.getElem?_eq_getElem (l := cells q0) (i := 0) (by rw [hlen q0 hp0]; exact hk0)
          have k0 := hat0 0 hk0
          have := cell_spot (k0.trans hv)
          simpa [Addr.add] using this
        obtain ⟨b, off, sp⟩ := a
        simp only at hsp
        subst hsp
        refine ⟨q, fun _ => ⟨rfl, hp, fun j v hv => ?_⟩⟩
        have hj := (List.getElem?_eq_some_iff.1 hv).1
        have := hat j (by rw [hlen q hp] at hj; exact hj)
        rw [Addr.add_lit, Addr.add_lit] at this
        exact this.trans hv
      · exact ⟨d, fun h => absurd h him⟩
    obtain ⟨f, hf⟩ := Classical.axiomOfChoice hex
    have hll : ((List.range len).map f).length = len := by simp
    have hP : ∀ q ∈ (List.range len).map f, P q := fun q hq => by
      obtain ⟨i, hi2, rfl⟩ := List.mem_map.1 hq
      exact (hf i (by have := List.mem_range.1 hi2; omega)).2.1
    have hL : ∀ c ∈ ((List.range len).map f).map cells, c.length = k := fun c hc => by
      obtain ⟨q, hq, rfl⟩ := List.mem_map.1 hc
      exact hlen q (hP q hq)
    refine ⟨(List.range len).map f, ⟨some a, m, by rw [hll], by rw [hll]; exact hl, by unfold maxLen at hm; omega, by rw [flat_len hL, List.length_map], ?_, fun hne => ?_⟩, hP⟩
    · intro u hu2
      obtain ⟨c, hc, hu3⟩ := List.mem_flatten.1 hu2
      obtain ⟨q, hq, rfl⟩ := List.mem_map.1 hc
      exact hone q (hP q hq) u hu3
    · rw [hll] at hne
      obtain ⟨hsp, hp0, hc0⟩ := hf 0 (by omega)
      have hb : a.block < W.heap.size := by
        have hv := List.getElem?_eq_getElem (l := cells (f 0)) (i := 0) (by rw [hlen _ hp0]; exact hk0)
        exact World.block_lt_of_cell? W ⟨a.block, _, none⟩ (hc0 0 _ hv)
      obtain ⟨b, off, sp⟩ := a
      simp only at hsp
      subst hsp
      refine ⟨b, off, rfl, ⟨hb, trivial⟩, fun i u hu2 => ?_⟩
      have hi2 : i < len * k := by
        have := (List.getElem?_eq_some_iff.1 hu2).1
        rw [flat_len hL, List.length_map, hll] at this; exact this
      have hdk : i / k < len := (Nat.div_lt_iff_lt_mul hk0).2 hi2
      have hmk : i % k < k := Nat.mod_lt _ hk0
      have e : i = i / k * k + i % k := by rw [Nat.mul_comm]; exact (Nat.div_add_mod i k).symm
      rw [e, flat_get hL (i / k) (i % k) (by rw [List.length_map, hll]; exact hdk) hmk] at hu2
      simp only [List.getElem_map, List.getElem_range] at hu2
      have := (hf (i / k) (by omega)).2.2 (i % k) u hu2
      rw [e, ← Nat.add_assoc]; exact this
theorem trod_okc {T : TypeId} {fuel : Nat} {cs : List Value} {x : DataW H × List MemPlace} (hk : Try.prog.keyTypeAt 9 T = true) (hl : cs.length = Try.prog.cellsOf T) (h : DataW.trod enc Try.prog W 0 (fun _ => true) true fuel T cs = some x) : okc T cs :=
  ⟨hl, by rw [(keyLits_of_trod 9 T hk fuel cs x h).1]; rfl⟩
theorem trod_struct_len {T : TypeId} {fs : Array Field} {fuel : Nat} {cs : List Value} {x : DataW H × List MemPlace} (hu : Try.prog.underlying T = some (.struct fs)) (h : DataW.trod enc Try.prog W 0 (fun _ => true) true fuel T cs = some x) : cs.length = Try.prog.cellsOf T := by
  obtain ⟨xs, n, rfl, hx, hcl, hlen, hg⟩ := DataW.trod_struct hu h
  exact hcl
theorem cells_int : Try.prog.cellsOf 3 = 1 := by kernel_rfl
theorem cells_lv : Try.prog.cellsOf 69 = 3 := by kernel_rfl
theorem cells_hs : Try.prog.cellsOf 27 = 32 := by kernel_rfl
theorem cells_cn : Try.prog.cellsOf 31 = 41 := wCoin.cells
theorem cells_nd : Try.prog.cellsOf 33 = 2 := wNode.cells
theorem cells_cx : Try.prog.cellsOf 35 = 34 := wCtx.cells
theorem cells_lvs : Try.prog.cellsOf 36 = 1 := by kernel_rfl
theorem cells_hss : Try.prog.cellsOf 37 = 1 := by kernel_rfl
theorem cells_uss : Try.prog.cellsOf 23 = 1 := by kernel_rfl
theorem cells_tab : Try.prog.cellsOf 25 = 1 := by kernel_rfl
theorem cells_pt : Try.prog.cellsOf 39 = 2 := by kernel_rfl
theorem cells_sp : Try.prog.cellsOf 41 = 80 := by kernel_rfl
theorem cells_us : Try.prog.cellsOf 44 = 83 := by kernel_rfl
theorem trod_one {fuel : Nat} {cs : List Value} {x : DataW H × List MemPlace} (h : DataW.trod enc Try.prog W 0 (fun _ => true) true fuel 3 cs = some x) : ∃ a, cs = [.int .i64 a] := by
  obtain ⟨a, e, _, _⟩ := DataW.trod_int Try.underlying3 h
  exact ⟨a, e⟩
theorem part1 {cs : List Value} {i : Nat} (h : i < cs.length) : (cs.drop i).take 1 = [cs[i]] := by
  rw [List.drop_eq_getElem_cons h]; rfl
set_option maxRecDepth 100000 in
theorem trod_leaf {fuel : Nat} {cs : List Value} {x : DataW H × List MemPlace} (h : DataW.trod enc Try.prog W 0 (fun _ => true) true fuel 69 cs = some x) : ∃ p : Int × Int × Int, cs = [.int .i64 p.1, .int .i64 p.2.1, .int .i64 p.2.2] ∧ True := by
  obtain ⟨xs, n, rfl, hx, hcl, hlen, hg⟩ := DataW.trod_struct Try.underlying69 h
  rw [cells_lv] at hcl
  match cs, hcl with
  | [c0, c1, c2], _ =>
    match xs, hlen with
    | [y0, y1, y2], _ =>
      have g0 : DataW.trod enc Try.prog W 0 (fun _ => true) true n 3 [c0] = some y0 := by have := hg 0 _ rfl; simpa [cells_int] using this
      have g1 : DataW.trod enc Try.prog W 0 (fun _ => true) true n 3 [c1] = some y1 := by have := hg 1 _ rfl; simpa [cells_int] using this
      have g2 : DataW.trod enc Try.prog W 0 (fun _ => true) true n 3 [c2] = some y2 := by have := hg 2 _ rfl; simpa [cells_int] using this
      obtain ⟨a0, e0⟩ := trod_one g0
      obtain ⟨a1, e1⟩ := trod_one g1
      obtain ⟨a2, e2⟩ := trod_one g2
      simp only [List.cons.injEq, and_true] at e0 e1 e2
      subst e0 e1 e2
      exact ⟨(a0, a1, a2), rfl, trivial⟩
theorem lcl_flat (l : List (Int × Int × Int)) : (l.map fun p : Int × Int × Int => [Value.int .i64 p.1, .int .i64 p.2.1, .int .i64 p.2.2]).flatten = lcl l := by unfold lcl; rw [List.flatMap_def]
theorem open_lv {fuel : Nat} {c0 : Value} {x : DataW H × List MemPlace} (h : DataW.trod enc Try.prog W 0 (fun _ => true) true fuel 36 [c0] = some x) : ∃ l, Rw W (fun _ => True) c0 l.length 3 (lcl l) := by
  obtain ⟨L, h1, _⟩ := open_rows (0, 0, 0) (fun p : Int × Int × Int => [Value.int .i64 p.1, .int .i64 p.2.1, .int .i64 p.2.2]) (fun _ => True) Try.underlying36 cells_lv (by omega) trod_leaf (by
    intro a _ u hu
    simp only [List.mem_cons, List.not_mem_nil, or_false] at hu
    rcases hu with rfl | rfl | rfl <;> rfl) (fun _ _ => rfl) h
  exact ⟨L, by rw [← lcl_flat]; exact h1⟩
theorem arr_len {T e : TypeId} {n : Nat} {fuel : Nat} {cs : List Value} {x : DataW H × List MemPlace} (hu : Try.prog.underlying T = some (.array n e)) (h : DataW.trod enc Try.prog W 0 (fun _ => true) true fuel T cs = some x) : cs.length = Try.prog.cellsOf T := by
  cases fuel with
  | zero => simp [DataW.trod] at h
  | succ m =>
    unfold DataW.trod at h
    rw [hu] at h
    split at h <;> simp_all
theorem trod_hash {fuel : Nat} {cs : List Value} {x : DataW H × List MemPlace} (h : DataW.trod enc Try.prog W 0 (fun _ => true) true fuel 27 cs = some x) : ∃ a : List Value, cs = id a ∧ okc 27 a :=
  ⟨cs, rfl, trod_okc (by kernel_rfl) (arr_len Try.underlying27 h) h⟩
theorem open_hs {fuel : Nat} {c0 : Value} {x : DataW H × List MemPlace} (h : DataW.trod enc Try.prog W 0 (fun _ => true) true fuel 37 [c0] = some x) : ∃ l : List (List Value), Rw W (fun _ => True) c0 l.length 32 l.flatten ∧ ∀ c ∈ l, okc 27 c := by
  obtain ⟨L, h1, h2⟩ := open_rows [] id (okc 27) Try.underlying37 cells_hs (by omega) trod_hash (fun a h => h.one tHash) (fun a h => h.len wHash) h
  exact ⟨L, by rw [List.map_id] at h1; exact h1, h2⟩
theorem cut3 {cs : List Value} (h : cs.length = 80) : ∃ c77 c78 c79, cs = cs.take 41 ++ ((cs.drop 41).take 2 ++ ((cs.drop 43).take 34 ++ [c77, c78, c79])) ∧ (cs.drop 77).take 1 = [c77] ∧ (cs.drop 78).take 2 = [c78, c79] := by
  have h3 : (cs.drop 77).length = 3 := by rw [List.length_drop]; omega
  match he : cs.drop 77, h3 with
  | [c77, c78, c79], _ =>
    have e78 : cs.drop 78 = [c78, c79] := by rw [show 78 = 77 + 1 from rfl, ← List.drop_drop, he]; rfl
    refine ⟨c77, c78, c79, ?_, rfl, by rw [e78]; rfl⟩
    have e2 : cs.drop 43 = (cs.drop 43).take 34 ++ cs.drop 77 := by
      have := (List.take_append_drop 34 (cs.drop 43)).symm
      rwa [List.drop_drop] at this
    have e1 : cs.drop 41 = (cs.drop 41).take 2 ++ cs.drop 43 := by
      have := (List.take_append_drop 2 (cs.drop 41)).symm
      rwa [List.drop_drop] at this
    conv => lhs; rw [← List.take_append_drop 41 cs, e1, e2, he]
set_option maxRecDepth 100000 in
theorem trod_spend {fuel : Nat} {cs : List Value} {x : DataW H × List MemPlace} (h : DataW.trod enc Try.prog W 0 (fun _ => true) true fuel 41 cs = some x) : ∃ (s : Sp) (la pa : Value), cs = spc s la pa ∧ (gSp s la pa).at_ W (fun _ => True) := by
  obtain ⟨xs, n, rfl, hx, hcl, hlen, hg⟩ := DataW.trod_struct Try.underlying41 h
  rw [cells_sp] at hcl
  obtain ⟨c77, c78, c79, he, e77, e78⟩ := cut3 hcl
  match xs, hlen with
  | [y0, y1, y2, y3, y4], _ =>
    have g0 : DataW.trod enc Try.prog W 0 (fun _ => true) true n 31 (cs.take 41) = some y0 := by have := hg 0 _ rfl; simpa [cells_cn] using this
    have g1 : DataW.trod enc Try.prog W 0 (fun _ => true) true n 33 ((cs.drop 41).take 2) = some y1 := by have := hg 1 _ rfl; simpa [cells_nd] using this
    have g2 : DataW.trod enc Try.prog W 0 (fun _ => true) true n 35 ((cs.drop 43).take 34) = some y2 := by have := hg 2 _ rfl; simpa [cells_cx] using this
    have g3 : DataW.trod enc Try.prog W 0 (fun _ => true) true n 36 [c77] = some y3 := by have := hg 3 _ rfl; simpa [cells_lvs, e77] using this
    have g4 : DataW.trod enc Try.prog W 0 (fun _ => true) true n 39 [c78, c79] = some y4 := by have := hg 4 _ rfl; simpa [cells_pt, e78] using this
    obtain ⟨ys, m, rfl, hy, hyl, hylen, hyg⟩ := DataW.trod_struct Try.underlying39 g4
    match ys, hylen with
    | [z0, z1], _ =>
      have k0 : DataW.trod enc Try.prog W 0 (fun _ => true) true m 3 [c78] = some z0 := by have := hyg 0 _ rfl; simpa [cells_int] using this
      have k1 : DataW.trod enc Try.prog W 0 (fun _ => true) true m 37 [c79] = some z1 := by have := hyg 1 _ rfl; simpa [cells_hss] using this
      obtain ⟨pi, e0⟩ := trod_one k0
      simp only [List.cons.injEq, and_true] at e0
      subst e0
      obtain ⟨lv, hlv⟩ := open_lv g3
      obtain ⟨pa, hpa, hok⟩ := open_hs k1
      have o0 : okc 31 (cs.take 41) := trod_okc (by kernel_rfl) (trod_struct_len Try.underlying31 g0) g0
      have o1 : okc 33 ((cs.drop 41).take 2) := trod_okc (by kernel_rfl) (trod_struct_len Try.underlying33 g1) g1
      have o2 : okc 35 ((cs.drop 43).take 34) := trod_okc (by kernel_rfl) (trod_struct_len Try.underlying35 g2) g2
      exact ⟨⟨cs.take 41, (cs.drop 41).take 2, (cs.drop 43).take 34, lv, pi, pa⟩, c77, c79, he, ⟨o0, o1, o2, hok⟩, hlv, hpa⟩
set_option maxRecDepth 100000 in
theorem trod_use {fuel : Nat} {cs : List Value} {x : DataW H × List MemPlace} (h : DataW.trod enc Try.prog W 0 (fun _ => true) true fuel 44 cs = some x) : ∃ q : Uv, cs = uvc q ∧ (gUv q).at_ W (fun _ => True) := by
  obtain ⟨xs, n, rfl, hx, hcl, hlen, hg⟩ := DataW.trod_struct Try.underlying44 h
  rw [cells_us] at hcl
  match cs, hcl with
  | c0 :: c1 :: r, hr =>
    match xs, hlen with
    | [y0, y1, y2, y3], _ =>
      have hrl : r.length = 81 := by simpa using hr
      have g0 : DataW.trod enc Try.prog W 0 (fun _ => true) true n 3 [c0] = some y0 := by have := hg 0 _ rfl; simpa [cells_int] using this
      have g1 : DataW.trod enc Try.prog W 0 (fun _ => true) true n 3 [c1] = some y1 := by have := hg 1 _ rfl; simpa [cells_int] using this
      have g2 : DataW.trod enc Try.prog W 0 (fun _ => true) true n 41 (r.take 80) = some y2 := by have := hg 2 _ rfl; simpa [cells_sp] using this
      have g3 : DataW.trod enc Try.prog W 0 (fun _ => true) true n 3 ((r.drop 80).take 1) = some y3 := by have := hg 3 _ rfl; simpa [cells_int] using this
      obtain ⟨a0, e0⟩ := trod_one g0
      obtain ⟨a1, e1⟩ := trod_one g1
      obtain ⟨a3, e3⟩ := trod_one g3
      obtain ⟨s, la, pa, e2, hs⟩ := trod_spend g2
      simp only [List.cons.injEq, and_true] at e0 e1
      subst e0 e1
      refine ⟨⟨⟨a0, a1, s, a3⟩, la, pa⟩, ?_, hs⟩
      have e4 : r = r.take 80 ++ (r.drop 80).take 1 := by
        rw [List.take_of_length_le (l := r.drop 80) (by rw [List.length_drop]; omega), List.take_append_drop]
      rw [e2, e3] at e4
      show _ = usc _ _ _
      unfold usc
      rw [← e4]
theorem open_us {fuel : Nat} {c0 : Value} {x : DataW H × List MemPlace} (h : DataW.trod enc Try.prog W 0 (fun _ => true) true fuel 23 [c0] = some x) : ∃ L : List Uv, (gUl c0 L).at_ W (fun _ => True) := by
  obtain ⟨L, h1, h2⟩ := open_rows (⟨zU, nilV, nilV⟩ : Uv) uvc (fun q => (gUv q).at_ W (fun _ => True)) Try.underlying23 cells_us (by omega) trod_use (fun a h => gUv.one h) (fun a h => gUv.len h) h
  exact ⟨L, h1, h2⟩
end
set_option maxRecDepth 100000 in
theorem open_tab {H : Type} {enc : TypeId × Value → H} {W : World} {r : Reach} {b0 : Nat} {v : Value} {d : DataW H} {ps : List MemPlace} (hval : Value.okWide Try.prog W r b0 25 v) (hd : DataW.Trod enc Try.prog W 0 (fun _ => true) true 25 v d ps) :
    ∃ (L : List Uv) (xa : Option Addr) (xk : Nat), v = .agg #[.slice xa L.length xk] ∧ Fct.at W (fun _ => True) (.gn (gUl (.slice xa L.length xk) L)) := by
  obtain ⟨fuel, hf⟩ := hd
  obtain ⟨cs, rfl, hl⟩ := okWide_struct Try.underlying25 hval
  obtain ⟨xs, n, rfl, hx, hcl, hlen, hg⟩ := DataW.trod_struct Try.underlying25 hf
  have hcs : cs = cs.toList.toArray := Array.toArray_toList.symm
  have hcl' : cs.toList.length = 1 := hcl.trans cells_tab
  have hg' : ∀ (i : Nat) (f : Field), _ → DataW.trod enc Try.prog W 0 (fun _ => true) true n f.type ((cs.toList.drop f.offset).take (Try.prog.cellsOf f.type)) = xs[i]? := hg
  rw [hcs]
  generalize cs.toList = l at *
  match l, hcl' with
  | [c0], _ =>
    match xs, hlen with
    | [y0], _ =>
      have g0 : DataW.trod enc Try.prog W 0 (fun _ => true) true n 23 [c0] = some y0 := by have := hg' 0 _ rfl; simpa [cells_uss] using this
      obtain ⟨L, hL⟩ := open_us g0
      obtain ⟨xa, xk, rfl⟩ := gUl.len hL
      exact ⟨L, xa, xk, rfl, hL⟩
set_option maxRecDepth 100000 in
theorem open_spn {H : Type} {enc : TypeId × Value → H} {W : World} {r : Reach} {b0 : Nat} {v : Value} {d : DataW H} {ps : List MemPlace} (hval : Value.okWide Try.prog W r b0 41 v) (hd : DataW.Trod enc Try.prog W 0 (fun _ => true) true 41 v d ps) :
    ∃ (s : Sp) (la pa : Value), v = .agg (spc s la pa).toArray ∧ Fct.at W (fun _ => True) (.gn (gSp s la pa)) := by
  obtain ⟨fuel, hf⟩ := hd
  obtain ⟨cs, rfl, hl⟩ := okWide_struct Try.underlying41 hval
  obtain ⟨s, la, pa, e, h⟩ := trod_spend hf
  exact ⟨s, la, pa, by rw [← e]; exact congrArg Value.agg Array.toArray_toList.symm, h⟩
end Go.Proofs.Ytfnnfmefihiefaa

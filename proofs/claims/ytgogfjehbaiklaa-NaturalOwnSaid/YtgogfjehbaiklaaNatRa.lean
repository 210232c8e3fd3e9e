/- Lists of words that grow by append; the reference's word, trim, sized, Same, Valid. -/
import Derived.Test.YtgogfjehbaiklaaNatK
import Derived.Maps.AppendAt
namespace Go.Proofs.Ytgogfjehbaiklaa
open Go.RowKit NatMath
set_option linter.unusedVariables false

/-- the slice v is the call's own (nil, or the head of a block from base on) and holds the words l -/
def OwnV (w : World) (base : Nat) (v : Value) (l : List Nat) : Prop := w.ownsRow base 62 1 v l.length (l.map fun (u : Nat) => Value.int .u32 (u : Int)) ∧ words l

theorem OwnV.nil (w : World) (base : Nat) : OwnV w base (.slice none 0 0) [] := ⟨World.ownsRow_nil .., words_nil⟩
theorem OwnV.fr {w : World} {base : Nat} {v : Value} {l : List Nat} (h : OwnV w base v l) : Fr base v := by
  obtain ⟨⟨_, ⟨rfl, h2⟩ | ⟨g, cap, cur, rfl, h3, _⟩⟩, _⟩ := h
  · exact Fr.nil _
  · exact Fr.block h3
theorem OwnV.sl {w : World} {base : Nat} {v : Value} {l : List Nat} (h : OwnV w base v l) : Sl w v l := by
  obtain ⟨⟨_, ⟨rfl, h2⟩ | ⟨g, cap, cur, rfl, h3, h4, h5, h6, h7, h8⟩⟩, hw⟩ := h
  · rw [List.length_eq_zero_iff.1 h2]; exact Sl.nil _
  · refine ⟨_, cap, rfl, h5, h6, hw, fun _ => ⟨g, 0, rfl, lt_of_block h4, fun i hi => ?_⟩, by rintro a ha; simp only [Option.some.injEq] at ha; rw [← ha]⟩
    have e : cur[0 + i]? = (l.map fun (u : Nat) => Value.int .u32 (u : Int))[i]? := by
      rw [← h8, Nat.zero_add, ← Array.getElem?_toList, List.getElem?_take, if_pos (by omega)]
    simp only [World.cell?, h4, Option.isSome_none, Bool.false_eq_true, if_false, e]
    rw [List.getElem?_map, List.getElem?_eq_getElem hi, List.getD_eq_getElem?_getD, List.getElem?_eq_getElem hi]
    rfl
theorem OwnV.form {w : World} {base : Nat} {v : Value} {l : List Nat} (h : OwnV w base v l) (k : Nat) (hk : l.length = k) : ∃ a c, v = .slice a k c := by
  subst hk
  obtain ⟨⟨_, ⟨rfl, h2⟩ | ⟨g, cap, cur, rfl, h3, _⟩⟩, _⟩ := h
  · exact ⟨_, _, by rw [h2]⟩
  · exact ⟨_, _, rfl⟩
theorem OwnV.below {w w' : World} {base : Nat} {v : Value} {l : List Nat} (h : OwnV w base v l) (hb : Below w.heap.size w w') : OwnV w' base v l := by
  obtain ⟨⟨h1, ⟨rfl, h2⟩ | ⟨g, cap, cur, rfl, h3, h4, h5⟩⟩, hw⟩ := h
  · exact ⟨⟨h1, Or.inl ⟨rfl, h2⟩⟩, hw⟩
  · exact ⟨⟨h1, Or.inr ⟨g, cap, cur, rfl, h3, (hb.block g (lt_of_block h4)).trans h4, h5⟩⟩, hw⟩
theorem OwnV.set {w : World} {base : Nat} {v : Value} {l : List Nat} (h : OwnV w base v l) {a : Addr} (ha : a.block < base) (Y : Value) : OwnV (w.setCell a Y) base v l := by
  obtain ⟨⟨h1, ⟨rfl, h2⟩ | ⟨g, cap, cur, rfl, h3, h4, h5⟩⟩, hw⟩ := h
  · exact ⟨⟨h1, Or.inl ⟨rfl, h2⟩⟩, hw⟩
  · exact ⟨⟨h1, Or.inr ⟨g, cap, cur, rfl, h3, (Below.heap_setCell w a Y g (by omega)).trans h4, h5⟩⟩, hw⟩

/-- append of words that lie somewhere -/
theorem wpList_pushes {ops : Array Oper} {rest : List Oper} {o : Oper} {a : Act} {Q : Exit → Act → World → Prop} (w : World) (hgd : o.guard = none) (s x : Operand)
    (ho : o.op = .call { callee := .builtin .append, args := #[s, x], argTypes := #[22, 22] })
    (base : Nat) (v : Value) (l m : List Nat) (k : Nat) (hk : m.length = k) (hs : a.eval s = v) (hown : OwnV w base v l) (ad : Addr) (c : Nat) (hx : a.eval x = .slice (some ad) k c)
    (hcell : ∀ j, j < k → w.cell? (ad.add j) = some (.int .u32 ((m.getD j 0 : Nat) : Int)))
    (hu : words m) (hl : l.length ≤ 1000000) (hm : k ≤ 1000000) (hbase : base ≤ w.heap.size)
    (h : ∀ v' w', OwnV w' base v' (l ++ m) → Below base w w' → wpList Try.prog ops Q rest (a.put o.dst v') w') :
    wpList Try.prog ops Q (o :: rest) a w := by
  subst hk
  obtain ⟨i0, hi, hz0, hz1, hz2⟩ := info_parts Try.info62
  refine wpList_append_own_at w hgd s x 22 ho base 62 i0 (.int .u32 0) 1 4 (by rfl) hi hz0 hz1 hz2 rfl (by omega) v l.length _ hs hown.1 ad m.length c (m.map fun (u : Nat) => Value.int .u32 (u : Int)) hx (by simp) ?_ ?_ ?_ ?_ hbase ?_
  · intro j y hy
    rw [List.getElem?_map] at hy
    obtain ⟨z, hz, rfl⟩ := Option.map_eq_some_iff.1 hy
    have hj : j < m.length := by apply Nat.lt_of_not_le; intro hh; rw [List.getElem?_eq_none hh] at hz; simp at hz
    rw [hcell j hj, List.getD_eq_getElem?_getD, hz]; rfl
  · intro y hy
    obtain ⟨z, _, rfl⟩ := List.mem_map.1 hy
    rfl
  · unfold maxLen; omega
  · omega
  · intro v' w' h1 h2 _ h4
    refine h v' w' ⟨by simpa using h1, ?_⟩ ((Below.refl _ _).grown h2 hbase ?_)
    · intro y hy
      rcases List.mem_append.1 hy with hy | hy
      · exact hown.2 y hy
      · exact hu y hy
    · intro k hk
      have := hown.fr
      cases v with
      | slice ao n' c' =>
        cases ao with
        | none => simp [Value.ownBlock] at hk
        | some a' => simp [Value.ownBlock] at hk; rw [← hk]; exact this a' _ _ rfl
      | _ => simp [Value.ownBlock] at hk

/-- append of one word -/
theorem wpList_push {ops : Array Oper} {rest : List Oper} {o : Oper} {a : Act} {Q : Exit → Act → World → Prop} (w : World) (hgd : o.guard = none) (s x : Operand)
    (ho : o.op = .call { callee := .builtin .append, args := #[s, x], argTypes := #[22, 22] })
    (base : Nat) (v : Value) (l : List Nat) (u : Nat) (hs : a.eval s = v) (hown : OwnV w base v l) (ad : Addr) (c : Nat) (hx : a.eval x = .slice (some ad) 1 c) (hcell : w.cell? ad = some (.int .u32 (u : Int)))
    (hu : u < 4294967296) (hl : l.length ≤ 1000000) (hbase : base ≤ w.heap.size)
    (h : ∀ v' w', OwnV w' base v' (l ++ [u]) → Below base w w' → wpList Try.prog ops Q rest (a.put o.dst v') w') :
    wpList Try.prog ops Q (o :: rest) a w := by
  refine wpList_pushes w hgd s x ho base v l [u] 1 rfl hs hown ad c hx (fun j hj => ?_) (by intro y hy; simp at hy; omega) hl (by omega) hbase h
  obtain rfl : j = 0 := by omega
  simpa [Addr.add] using hcell

/-- an empty block of the call's own -/
theorem OwnV.empty (w : World) (base g : Nat) (hb : base ≤ g) (hg : w.heap.size = g) : OwnV (w.alloc (.cells #[] 62)) base (.slice (some ⟨g, 0, none⟩) 0 0) [] := by
  subst hg
  refine ⟨⟨rfl, Or.inr ⟨w.heap.size, 0, #[], rfl, hb, ?_, Nat.le_refl _, by unfold maxLen; omega, rfl, rfl⟩⟩, words_nil⟩
  show (w.heap.push _)[w.heap.size]? = _
  rw [Array.getElem?_push, if_pos rfl]

theorem Sl.open {w : World} {v : Value} {l : List Nat} (h : Sl w v l) : ∃ (ao : Option Addr) (cap : Nat), v = .slice ao l.length cap ∧ l.length ≤ cap ∧ cap ≤ 9223372036854775807 ∧
    (l ≠ [] → ∃ b off, ao = some ⟨b, off, none⟩ ∧ b < w.heap.size ∧ ∀ i, i < l.length → w.cell? ⟨b, off + i, none⟩ = some (.int .u32 ((l.getD i 0 : Nat) : Int))) := by
  obtain ⟨ao, cap, h1, h2, h3, h4, h5, _⟩ := h
  exact ⟨ao, cap, h1, h2, h3, h5⟩

set_option maxHeartbeats 400000 in
theorem word_c (v : Value) (l : List Nat) (i : Nat) (w : World) (h : Sl w v l) (hi : (i : Int) ≤ 1000000) :
    Calls Try.prog 56 #[.agg #[v], .int .i64 i] w fun e w' => e = .returned (.int .i64 (l.getD i 0 : Nat)) ∧ Below w.heap.size w w' := by
  obtain ⟨ao, cap, rfl, h1, h2, h3⟩ := h.open
  have h4 := getD_lt h.choose_spec.choose_spec.2.2.2.1 i
  have hn0 : decide ((i : Int) < 0) = false := decide_eq_false (by omega)
  by_cases hl : i < l.length
  · have ht : decide (l.length ≤ i) = false := decide_eq_false (by omega)
    obtain ⟨b, off, rfl, hb, hc⟩ := h3 (by intro e; rw [e] at hl; simp at hl)
    have hc1 := hc i hl
    generalize l.getD i 0 = u at *
    generalize l.length = n at *
    clear h h3 hc
    go_enter Try.func56, Try.ntmps56
    go_wp2
    go_ret
    exact ⟨rfl, below_one _ _⟩
  · have ht : decide (l.length ≤ i) = true := decide_eq_true (by omega)
    have hz : l.getD i 0 = 0 := by rw [List.getD_eq_getElem?_getD, List.getElem?_eq_none (by omega)]; rfl
    rw [hz]
    generalize l.length = n at *
    clear h h3 h4 hz
    go_enter Try.func56, Try.ntmps56
    go_wp2
    go_ret
    exact ⟨rfl, below_one _ _⟩

theorem Nt.empty (w : World) (b c : Nat) (hc : c ≤ 9223372036854775807 := by omega) : Nt w (.slice (some ⟨b, 0, none⟩) 0 c) 0 := by
  unfold Nt
  rw [digs_zero]
  exact ⟨_, c, rfl, Nat.zero_le _, hc, words_nil, fun h => absurd rfl h, by rintro a ha; simp only [Option.some.injEq] at ha; rw [← ha]⟩

theorem box1f' (w : World) (a : Value) (T : TypeId) (o : Obj) : ((w.alloc (.cells #[a] T)).alloc o).frozen? ⟨w.heap.size, 0, none⟩ = false := by simp

set_option maxHeartbeats 1000000 in
theorem trim_c (v : Value) (l : List Nat) (w : World) (h : Sl w v l) (hl : l.length ≤ 1000000) :
    Calls Try.prog 49 #[v] w fun e w' => (∃ ao c, e = .returned (.agg #[.slice ao (len (val l)) c]) ∧ Hid (Nt w' (.slice ao (len (val l)) c) (val l) ∧ Fr w.heap.size (.slice ao (len (val l)) c))) ∧ Below w.heap.size w w' := by
  obtain ⟨ao, cap, rfl, h1, h2, h3, h4, h5⟩ := h
  have hw := Lib.hid h3
  have hd := Lib.hid (fun k => digs_take (k := k) h3)
  have hv := Lib.hid (fun k => val_take_zero (l := l) (k := k))
  have ha : val (l.take l.length) = val l := by rw [List.take_length]
  have HA := Lib.hid ha
  have hlt : Hid (∀ i, l.getD i 0 < 4294967296) := Lib.hid (fun i => getD_lt h3 i)
  have hne : Hid (0 < l.length → l ≠ []) := Lib.hid (by rintro h rfl; simp at h)
  have H4 := Lib.hid h4
  have HT : Hid (∀ k, k ≤ l.length → (l.take k).length = k) := Lib.hid (fun k hk => by rw [List.length_take]; omega)
  have hgd : Hid (∀ k i, i < k → (l.take k).getD i 0 = l.getD i 0) := Lib.hid (fun k i hi => getD_take hi)
  have hwt : Hid (∀ k, words (l.take k)) := Lib.hid (fun k => words_take h3 k)
  clear h3 h4 h5 ha
  generalize hn : l.length = n at *
  clear hn
  have hnn : (n : Int) ≤ 1000000 := by omega
  go_enter Try.func49, Try.ntmps49
  go_wp2
  go_loop [3] (fun s3 => ∃ k : Nat, s3 = .int .i64 (k : Int) ∧ k ≤ n ∧ Hid (val (l.take k) = val l)) (fun s3 => (RowKit.intOf s3).toNat)
  case atStart => exact ⟨n, rfl, Nat.le_refl _, HA⟩
  case round =>
    obtain ⟨k, rfl, hk, HI⟩ := hrel
    by_cases h0 : k = 0
    · subst h0
      have ht : decide ((0 : Int) < ((0 : Nat) : Int)) = false := rfl
      have hz : val l = 0 := by have := HI.out; simp [val] at this; omega
      cases ao with
      | none =>
        go_wp2
        exact bodyPost_ret (v := .agg #[.slice (some ⟨w.heap.size + 1, 0, none⟩) 0 0]) (by simp [results, Try.results49, go_sem]) rfl ⟨⟨some ⟨w.heap.size + 1, 0, none⟩, 0, by rw [len_zero], Lib.hid (by rw [len_zero]; exact ⟨Nt.empty _ _ _, Fr.block (by omega)⟩)⟩, below_two _ _ _⟩
      | some a =>
        go_wp2
        exact bodyPost_ret (v := .agg #[.slice (some ⟨w.heap.size + 1, 0, none⟩) 0 0]) (by simp [results, Try.results49, go_sem]) rfl ⟨⟨some ⟨w.heap.size + 1, 0, none⟩, 0, by rw [len_zero], Lib.hid (by rw [len_zero]; exact ⟨Nt.empty _ _ _, Fr.block (by omega)⟩)⟩, below_two _ _ _⟩
    · obtain ⟨j, rfl⟩ : ∃ j, k = j + 1 := ⟨k - 1, by omega⟩
      have ht : decide (0 < (j + 1 : Nat)) = true := decide_eq_true (by omega)
      have ht2 : decide ((0 : Int) < ((j + 1 : Nat) : Int)) = true := decide_eq_true (by omega)
      have ej : (((j + 1 : Nat) : Int) - 1) = (j : Int) := by omega
      obtain ⟨b, off, rfl, hb, hc⟩ := H4.out (hne.out (by omega))
      have hcj := hc j (by omega)
      have hjn : j < n := by omega
      have huj := hlt.out j
      by_cases hz : l.getD j 0 = 0
      · have HI2 : Hid (val (l.take j) = val l) := Lib.hid (by rw [hv.out j (by omega) hz]; exact HI.out)
        rw [hz] at hcj
        have HC := Lib.hid hc
        clear hc
        go_wp2
        go_round
        case rel => exact ⟨j, rfl, by omega, HI2⟩
        case measure => simp [RowKit.intOf]
      · have hz0 : (((l.getD j 0 : Nat) : Int) == 0) = false := beq_eq_false_iff_ne.2 (by omega)
        have hdig := hd.out (j + 1) hk HI.out (Or.inr (by rw [Nat.add_sub_cancel]; exact hz))
        have hlen : len (val l) = j + 1 := by unfold len; rw [hdig]; exact HT.out _ hk
        have HL := Lib.hid hlen
        have HD := Lib.hid hdig
        have HC : Hid (∀ i, i < j + 1 → ((w.alloc (.cells #[.slice none 0 0] 24)).alloc (.cells #[] 62)).cell? ((⟨b, off, none⟩ : Addr).add i) = some (.int .u32 (((l.take (j + 1)).getD i 0 : Nat) : Int))) := Lib.hid (fun i hi => by
          rw [show (⟨b, off, none⟩ : Addr).add i = ⟨b, off + i, none⟩ from by simp [Addr.add]]
          rw [hgd.out _ _ hi, ← hc i (by omega)]
          exact (below_two w _ _).cell (p := ⟨b, off + i, none⟩) hb)
        have HV : Hid (val (l.take (j + 1)) = val l) := HI
        generalize l.getD j 0 = u at *
        clear hc hdig hlen hz ej
        go_wp2_with (at_builtin; go_loud (refine wpList_pushes _ rfl _ _ rfl (w.heap.size + 1) _ [] (l.take (j + 1)) (j + 1) (HT.out _ hk) rfl (OwnV.empty _ _ _ (by simp) (by simp)) ⟨b, off, none⟩ _ rfl HC.out (hwt.out _) (by simp) (by omega) (by simp) ?_; intro v1 w1 hv1 hb1; obtain ⟨a1, c1, rfl⟩ := hv1.form (j + 1) (HT.out _ hk); have r3 := (hb1.cell (p := ⟨w.heap.size, 0, none⟩) (by simp)).trans (box2a ..); have r4 := (hb1.frozen (p := ⟨w.heap.size, 0, none⟩) (by simp)).trans (box1f' ..); have hs1 : w.heap.size < w1.heap.size := Nat.lt_of_lt_of_le (by simp; omega) hb1.size))
        have hv2 := hv1.set (a := ⟨w.heap.size, 0, none⟩) (by simp) (.slice a1 (j + 1) c1)
        have hs2 := hv2.sl
        rw [List.nil_append] at hs2
        have hN : Nt (w1.setCell ⟨w.heap.size, 0, none⟩ (.slice a1 (j + 1) c1)) (.slice a1 (j + 1) c1) (val l) := by
          unfold Nt
          rw [HD.out]
          exact hs2
        have hB : Below w.heap.size w (w1.setCell ⟨w.heap.size, 0, none⟩ (.slice a1 (j + 1) c1)) := ((below_two w _ _).trans (hb1.mono (by omega))).setCell (Nat.le_refl _) _
        exact bodyPost_ret (v := .agg #[.slice a1 (j + 1) c1]) (by simp [results, Try.results49, go_sem, r3]) rfl ⟨⟨a1, c1, by rw [HL.out], Lib.hid (by rw [HL.out]; exact ⟨hN, Fr.mono hv1.fr (by omega)⟩)⟩, hB⟩
end Go.Proofs.Ytgogfjehbaiklaa

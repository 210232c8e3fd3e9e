/- line: Send. -/
import Derived.Test.YtbcfcdcomboljaaLinSa
namespace Go.Proofs.Ytbcfcdcomboljaa
open Go.RowKit
set_option linter.unusedVariables false
set_option linter.unusedSimpArgs false
/-- a list with k copies of x put in at i -/
def rep {α : Type} (l : List α) (i k : Nat) (x : α) : List α := l.take i ++ (List.replicate k x ++ l.drop i)
theorem rep_zero {α : Type} (l : List α) (i : Nat) (x : α) : rep l i 0 x = l := by simp [rep]
theorem rep_len {α : Type} {l : List α} {i : Nat} (h : i ≤ l.length) (k : Nat) (x : α) : (rep l i k x).length = l.length + k := by simp [rep]; omega
theorem rep_take {α : Type} {l : List α} {i : Nat} (h : i ≤ l.length) (k : Nat) (x : α) : (rep l i k x).take i = l.take i ∧ (rep l i k x).drop i = List.replicate k x ++ l.drop i := by
  have hl : (l.take i).length = i := by simp; omega
  constructor
  · unfold rep; rw [List.take_append_of_le_length (by omega), List.take_take, Nat.min_self]
  · unfold rep; rw [List.drop_append_of_le_length (by omega), List.drop_take]; simp
theorem rep_insL {l : List Msg} {i : Nat} (h : i ≤ l.length) (k : Nat) (x : Msg) : insL (rep l i k x) i x = rep l i (k + 1) x := by
  have := rep_take h k x
  unfold insL; rw [this.1, this.2]; simp [rep, List.replicate_succ]
theorem rep_insI {l : List Int} {i : Nat} (h : i ≤ l.length) (k : Nat) (x : Int) : insI (rep l i k x) i x = rep l i (k + 1) x := by
  have := rep_take h k x
  unfold insI; rw [this.1, this.2]; simp [rep, List.replicate_succ]
/-- the fate of the next message -/
def fate0 (l : Lin) : Int × Int := l.ft.headD (1, 0)
/-- the line after sending -/
def sendL (l : Lin) (M : Msg) (i c : Nat) (d : Int) : Lin := ⟨l.nw, rep l.L i c M, rep l.ats i c (l.nw + d), l.ft.drop 1⟩
theorem RetL.mk {D : Nat → Prop} {W : World} {l : Lin} {n1 n2 n3 : Nat} {nw : Int} {la aa fa : Option Addr} {lj ak fk : Nat} (h0 : l.nw = nw) (h1 : l.L.length = n1) (h2 : l.ats.length = n2) (h3 : l.ft.length = n3) (m1 : Ms W D (.slice la n1 lj) l.L) (m2 : Rw W D (.slice aa n2 ak) l.ats.length 1 (icl l.ats)) (m3 : Rw W D (.slice fa n3 fk) l.ft.length 2 (fcl l.ft)) :
    RetL D l (.agg #[.int .i64 nw, .slice la n1 lj, .slice aa n2 ak, .slice fa n3 fk]) W := by
  subst h0 h1 h2 h3
  exact ⟨la, lj, aa, ak, fa, fk, rfl, Lib.hid m1, Lib.hid m2, Lib.hid m3⟩
theorem fcl_drop (l : List (Int × Int)) : fcl (l.drop 1) = (fcl l).drop 2 := by cases l <;> rfl
/-- a row of fates without the first -/
theorem Rw.tail {W : World} {D : Nat → Prop} {b o k : Nat} {l : List (Int × Int)} {A : Addr} (h : Rw W D (.slice (some ⟨b, o, none⟩) l.length k) l.length 2 (fcl l)) (h0 : 0 < l.length) (hA : (if k = 1 then some (⟨b, o, none⟩ : Addr) else some ⟨b, o + 2, none⟩) = some A) : Rw W D (.slice (some A) (l.length - 1) (k - 1)) (l.drop 1).length 2 (fcl (l.drop 1)) := by
  obtain ⟨ao, cap, h1, h2, h3, h4, h5, h6⟩ := h
  simp only [Value.slice.injEq] at h1
  obtain ⟨rfl, _, rfl⟩ := h1
  obtain ⟨b', o', e, hb, hc⟩ := h6 (by omega)
  simp only [Option.some.injEq, Addr.mk.injEq, and_true] at e
  obtain ⟨rfl, rfl⟩ := e
  refine ⟨some A, k - 1, by simp, by simp; omega, by omega, by rw [fcl_len], fcl_one _, fun hn => ?_⟩
  have hk : ¬ k = 1 := by simp at hn; omega
  rw [if_neg hk] at hA
  obtain rfl := Option.some.inj hA
  refine ⟨b, o + 2, rfl, hb, fun i u hu => ?_⟩
  rw [fcl_drop, List.getElem?_drop] at hu
  have := hc (2 + i) u hu
  rwa [show o + (2 + i) = o + 2 + i by omega] at this
theorem head_get {α : Type} {l : List α} {x : α} (h : 0 < l.length) : l[0] = l.headD x := by cases l with | nil => simp at h | cons p r => rfl
theorem Env.elFx {D0 : Nat → Prop} {w W : World} {F : List Bx} {G : List Fct} (h : Env D0 w F G W) (i : Nat) {b off n j : Nat} {l : List (Int × Int)} (e : G[i]? = some (.rw (.slice (some ⟨b, off, none⟩) n j) n 2 (fcl l))) (hn : n = l.length) (hk : 0 < l.length) {x y : Int} (hv : l[0] = (x, y)) : Env D0 w F (.ce b off (.int .i64 x) :: .ce b (off + 1) (.int .i64 y) :: G) W := by
  have := h.elF i e hn 0 hk
  rw [hv, Nat.zero_mul, Nat.add_zero] at this; exact this
theorem snd_bounds {l : Lin} (h : LinOk l) : (0 ≤ l.nw ∧ l.nw ≤ 1099511627776) ∧ (0 ≤ (fate0 l).1 ∧ (fate0 l).1 ≤ 3) ∧ 0 ≤ (fate0 l).2 ∧ (fate0 l).2 ≤ 1000000 := by
  obtain ⟨⟨h1, _⟩, _, _, hf⟩ := h
  unfold wth at h1
  simp only [Bool.and_eq_true, decide_eq_true_eq] at h1
  refine ⟨h1, ?_⟩
  unfold fate0
  cases hl : l.ft with
  | nil => exact ⟨⟨by decide, by decide⟩, by decide, by decide⟩
  | cons p r =>
    have := hf 0 (by rw [hl]; simp)
    simp only [hl, List.getElem_cons_zero] at this
    unfold fateOk wth at this
    simp only [Bool.and_eq_true, decide_eq_true_eq] at this
    simp only [List.headD_cons]
    omega
set_option maxRecDepth 100000 in
set_option maxHeartbeats 1000000 in
theorem Send_arg {D : Nat → Prop} (l : Lin) (M : Msg) {xa xb xc : Option Addr} {xj xk xm : Nat} {ma : Option Addr} {mk : Nat} {w : World} (h1 : Fct.at w D (.ms (.slice xa l.L.length xj) l.L)) (h2 : Fct.at w D (.rw (.slice xb l.ats.length xk) l.ats.length 1 (icl l.ats))) (h3 : Fct.at w D (.rw (.slice xc l.ft.length xm) l.ft.length 2 (fcl l.ft))) (hm : Fct.at w D (.bs (.slice ma M.body.length mk) M.body)) (hv0 : ¬ LinOk l) (hlen : l.ats.length ≤ 1000000) :
    Calls Try.prog 34 #[.agg #[.int .i64 l.nw, .slice xa l.L.length xj, .slice xb l.ats.length xk, .slice xc l.ft.length xm], .agg #[.int .i64 M.fr, .int .i64 M.to_, .int .i64 M.kd, .int .i64 M.nm, .slice ma M.body.length mk]] w fun e w' => RetLE (fun b => D b ∨ w.heap.size ≤ b) L0 1 e w' ∧ Below w.heap.size w w' := by
  have E0 := Lib.hid (((((Env.start D w).arg (.ms (.slice xa l.L.length xj) l.L) h1).arg (.rw (.slice xb l.ats.length xk) l.ats.length 1 (icl l.ats)) h2).arg (.rw (.slice xc l.ft.length xm) l.ft.length 2 (fcl l.ft)) h3).arg (.bs (.slice ma M.body.length mk) M.body) hm)
  clear h1 h2 h3 hm
  go_enter Try.func34, Try.ntmps34
  have hv := Lib.hid hv0
  clear hv0
  go_wp2_with fail
  have E1 := Lib.hid ((((E0.out.push 64 [.int .i64 l.nw, .slice xa l.L.length xj, .slice xb l.ats.length xk, .slice xc l.ft.length xm] (w.heap.size) (by simp)).push 24 [.int .i64 M.fr, .int .i64 M.to_, .int .i64 M.kd, .int .i64 M.nm, .slice ma M.body.length mk] (w.heap.size + 1) (by simp)).push 64 [.int .i64 0, .slice none 0 0, .slice none 0 0, .slice none 0 0] (w.heap.size + 1 + 1) (by simp)))
  refine (lValid_c l (E1.out.fc 3 rfl) (E1.out.fc 2 rfl) (E1.out.fc 1 rfl) (noOf hv.out) hlen).mono ?_
  rintro e w1 ⟨rfl, hb⟩
  have E2 := Lib.hid (E1.out.below hb)
  clear E0 E1 hb
  have b1 := E2.out.bx 1 rfl
  have c1_0 := b1.cell 0 rfl
  have c1_1 := b1.cell 1 rfl
  have c1_2 := b1.cell 2 rfl
  have c1_3 := b1.cell 3 rfl
  have c1_4 := b1.cell 4 rfl
  clear b1
  have b2 := E2.out.bx 0 rfl
  have c2_0 := b2.cell 0 rfl
  have c2_1 := b2.cell 1 rfl
  have c2_2 := b2.cell 2 rfl
  have c2_3 := b2.cell 3 rfl
  have f2_0 := b2.frozen 0
  have f2_1 := b2.frozen 1
  have f2_2 := b2.frozen 2
  have f2_3 := b2.frozen 3
  clear b2
  go_wp2
  have E3 : Hid (Env D w [(w.heap.size + 1 + 1, 64, [.int .i64 0, .slice none 0 0, .slice none 0 0, .slice none 0 0]), (w.heap.size + 1, 24, [.int .i64 M.fr, .int .i64 M.to_, .int .i64 M.kd, .int .i64 M.nm, .slice ma M.body.length mk]), (w.heap.size, 64, [.int .i64 l.nw, .slice xa l.L.length xj, .slice xb l.ats.length xk, .slice xc l.ft.length xm])] [.bs (.slice ma M.body.length mk) M.body, .rw (.slice xc l.ft.length xm) l.ft.length 2 (fcl l.ft), .rw (.slice xb l.ats.length xk) l.ats.length 1 (icl l.ats), .ms (.slice xa l.L.length xj) l.L] _) := Lib.hid (((((E2.out.set 0 0 (.int .i64 0) rfl).set 0 1 (.slice none 0 0) rfl).set 0 2 (.slice none 0 0) rfl).set 0 3 (.slice none 0 0) rfl))
  have hfin := E3.out
  have q3 := (hfin.bx 0 rfl).cell 0 rfl
  have q4 := (hfin.bx 0 rfl).cell 1 rfl
  have q5 := (hfin.bx 0 rfl).cell 2 rfl
  have q6 := (hfin.bx 0 rfl).cell 3 rfl
  exact bodyPost_ret (v := .tuple #[.agg #[.int .i64 0, .slice none 0 0, .slice none 0 0, .slice none 0 0], .int .i64 1]) (by simp [results, Try.results34, go_sem, q3, q4, q5, q6]) rfl ⟨⟨_, rfl, _, _, _, _, _, _, rfl, Lib.hid (Ms.nil _ _), Lib.hid (Rw.nil _ _ _), Lib.hid (Rw.nil _ _ _)⟩, hfin.bel⟩
set_option maxRecDepth 100000 in
set_option maxHeartbeats 1000000 in
theorem Send_arg2 {D : Nat → Prop} (l : Lin) (M : Msg) {xa xb xc : Option Addr} {xj xk xm : Nat} {ma : Option Addr} {mk : Nat} {w : World} (h1 : Fct.at w D (.ms (.slice xa l.L.length xj) l.L)) (h2 : Fct.at w D (.rw (.slice xb l.ats.length xk) l.ats.length 1 (icl l.ats))) (h3 : Fct.at w D (.rw (.slice xc l.ft.length xm) l.ft.length 2 (fcl l.ft))) (hm : Fct.at w D (.bs (.slice ma M.body.length mk) M.body)) (hv0 : LinOk l) (hmm0 : msgOk M = false) (hlen : l.ats.length ≤ 1000000) :
    Calls Try.prog 34 #[.agg #[.int .i64 l.nw, .slice xa l.L.length xj, .slice xb l.ats.length xk, .slice xc l.ft.length xm], .agg #[.int .i64 M.fr, .int .i64 M.to_, .int .i64 M.kd, .int .i64 M.nm, .slice ma M.body.length mk]] w fun e w' => RetLE (fun b => D b ∨ w.heap.size ≤ b) L0 1 e w' ∧ Below w.heap.size w w' := by
  have E0 := Lib.hid (((((Env.start D w).arg (.ms (.slice xa l.L.length xj) l.L) h1).arg (.rw (.slice xb l.ats.length xk) l.ats.length 1 (icl l.ats)) h2).arg (.rw (.slice xc l.ft.length xm) l.ft.length 2 (fcl l.ft)) h3).arg (.bs (.slice ma M.body.length mk) M.body) hm)
  clear h1 h2 h3 hm
  go_enter Try.func34, Try.ntmps34
  have hv := Lib.hid hv0
  have hmm := Lib.hid hmm0
  clear hv0 hmm0
  go_wp2_with fail
  have E1 := Lib.hid ((((E0.out.push 64 [.int .i64 l.nw, .slice xa l.L.length xj, .slice xb l.ats.length xk, .slice xc l.ft.length xm] (w.heap.size) (by simp)).push 24 [.int .i64 M.fr, .int .i64 M.to_, .int .i64 M.kd, .int .i64 M.nm, .slice ma M.body.length mk] (w.heap.size + 1) (by simp)).push 64 [.int .i64 0, .slice none 0 0, .slice none 0 0, .slice none 0 0] (w.heap.size + 1 + 1) (by simp)))
  refine (lValid_c l (E1.out.fc 3 rfl) (E1.out.fc 2 rfl) (E1.out.fc 1 rfl) (okOf hv.out) hlen).mono ?_
  rintro e w1 ⟨rfl, hb⟩
  have E2 := Lib.hid (E1.out.below hb)
  clear E0 E1 hb
  have b1 := E2.out.bx 1 rfl
  have c1_0 := b1.cell 0 rfl
  have c1_1 := b1.cell 1 rfl
  have c1_2 := b1.cell 2 rfl
  have c1_3 := b1.cell 3 rfl
  have c1_4 := b1.cell 4 rfl
  clear b1
  go_wp2_with fail
  refine (lmessage_v M hmm.out _ _ _).mono ?_
  rintro e w2 ⟨rfl, hb⟩
  have E3 := Lib.hid (E2.out.below hb)
  clear c1_0 c1_1 c1_2 c1_3 c1_4 E2 hb
  have b2 := E3.out.bx 0 rfl
  have c2_0 := b2.cell 0 rfl
  have c2_1 := b2.cell 1 rfl
  have c2_2 := b2.cell 2 rfl
  have c2_3 := b2.cell 3 rfl
  have f2_0 := b2.frozen 0
  have f2_1 := b2.frozen 1
  have f2_2 := b2.frozen 2
  have f2_3 := b2.frozen 3
  clear b2
  go_wp2
  have E4 : Hid (Env D w [(w.heap.size + 1 + 1, 64, [.int .i64 0, .slice none 0 0, .slice none 0 0, .slice none 0 0]), (w.heap.size + 1, 24, [.int .i64 M.fr, .int .i64 M.to_, .int .i64 M.kd, .int .i64 M.nm, .slice ma M.body.length mk]), (w.heap.size, 64, [.int .i64 l.nw, .slice xa l.L.length xj, .slice xb l.ats.length xk, .slice xc l.ft.length xm])] [.bs (.slice ma M.body.length mk) M.body, .rw (.slice xc l.ft.length xm) l.ft.length 2 (fcl l.ft), .rw (.slice xb l.ats.length xk) l.ats.length 1 (icl l.ats), .ms (.slice xa l.L.length xj) l.L] _) := Lib.hid (((((E3.out.set 0 0 (.int .i64 0) rfl).set 0 1 (.slice none 0 0) rfl).set 0 2 (.slice none 0 0) rfl).set 0 3 (.slice none 0 0) rfl))
  have hfin := E4.out
  have q3 := (hfin.bx 0 rfl).cell 0 rfl
  have q4 := (hfin.bx 0 rfl).cell 1 rfl
  have q5 := (hfin.bx 0 rfl).cell 2 rfl
  have q6 := (hfin.bx 0 rfl).cell 3 rfl
  exact bodyPost_ret (v := .tuple #[.agg #[.int .i64 0, .slice none 0 0, .slice none 0 0, .slice none 0 0], .int .i64 1]) (by simp [results, Try.results34, go_sem, q3, q4, q5, q6]) rfl ⟨⟨_, rfl, _, _, _, _, _, _, rfl, Lib.hid (Ms.nil _ _), Lib.hid (Rw.nil _ _ _), Lib.hid (Rw.nil _ _ _)⟩, hfin.bel⟩
set_option maxRecDepth 100000 in
set_option maxHeartbeats 1000000 in
theorem Send_full_n {D : Nat → Prop} (l : Lin) (M : Msg) (c : Nat) (d : Int) {xa xb xc : Option Addr} {xj xk xm : Nat} {ma : Option Addr} {mk : Nat} {w : World} (h1 : Fct.at w D (.ms (.slice xa l.L.length xj) l.L)) (h2 : Fct.at w D (.rw (.slice xb l.ats.length xk) l.ats.length 1 (icl l.ats))) (h3 : Fct.at w D (.rw (.slice xc l.ft.length xm) l.ft.length 2 (fcl l.ft))) (hm : Fct.at w D (.bs (.slice ma M.body.length mk) M.body)) (hv0 : LinOk l) (hmm0 : msgOk M = true) (hf0 : fate0 l = ((c : Int), d)) (hfl : 1000 < l.L.length + c) (h0f0 : l.ft.length = 0) :
    Calls Try.prog 34 #[.agg #[.int .i64 l.nw, .slice xa l.L.length xj, .slice xb l.ats.length xk, .slice xc l.ft.length xm], .agg #[.int .i64 M.fr, .int .i64 M.to_, .int .i64 M.kd, .int .i64 M.nm, .slice ma M.body.length mk]] w fun e w' => RetLE (fun b => D b ∨ w.heap.size ≤ b) L0 5 e w' ∧ Below w.heap.size w w' := by
  have E0 := Lib.hid (((((Env.start D w).arg (.ms (.slice xa l.L.length xj) l.L) h1).arg (.rw (.slice xb l.ats.length xk) l.ats.length 1 (icl l.ats)) h2).arg (.rw (.slice xc l.ft.length xm) l.ft.length 2 (fcl l.ft)) h3).arg (.bs (.slice ma M.body.length mk) M.body) hm)
  clear h1 h2 h3 hm
  go_enter Try.func34, Try.ntmps34
  have hv := Lib.hid hv0
  have hmm := Lib.hid hmm0
  have hf := Lib.hid hf0
  clear hv0 hmm0 hf0
  have hb := snd_bounds hv.out
  rw [hf.out] at hb
  dsimp only at hb
  obtain ⟨⟨b1, b2⟩, ⟨b3, b4⟩, b5, b6⟩ := hb
  obtain ⟨l1, l2⟩ : l.L.length ≤ 1000 ∧ l.ats.length ≤ 1000 := by obtain ⟨⟨_, h1, h2, _⟩, _⟩ := hv.out; omega
  have H2 := Lib.hid hv.out.1.2.1
  have c3 : c ≤ 3 := by omega
  clear b3 b4
  have t1 : decide ((0 : Int) < (l.ft.length : Int)) = false := decide_eq_false (by omega)
  have t2 : decide (0 < l.ft.length) = false := decide_eq_false (by omega)
  have hcd : Hid (c = 1 ∧ d = 0) := Lib.hid (by have h9 := hf.out; unfold fate0 at h9; rw [List.length_eq_zero_iff.1 h0f0] at h9; simp only [List.headD_nil, Prod.mk.injEq] at h9; omega)
  have H0F := Lib.hid h0f0
  clear h0f0
  go_wp2_with fail
  have E1 := Lib.hid ((((E0.out.push 64 [.int .i64 l.nw, .slice xa l.L.length xj, .slice xb l.ats.length xk, .slice xc l.ft.length xm] (w.heap.size) (by simp)).push 24 [.int .i64 M.fr, .int .i64 M.to_, .int .i64 M.kd, .int .i64 M.nm, .slice ma M.body.length mk] (w.heap.size + 1) (by simp)).push 64 [.int .i64 0, .slice none 0 0, .slice none 0 0, .slice none 0 0] (w.heap.size + 1 + 1) (by simp)))
  refine (lValid_c l (E1.out.fc 3 rfl) (E1.out.fc 2 rfl) (E1.out.fc 1 rfl) (okOf hv.out) (by omega)).mono ?_
  rintro e w1 ⟨rfl, hb⟩
  have E2 := Lib.hid (E1.out.below hb)
  clear E0 E1 hb
  have b1 := E2.out.bx 1 rfl
  have c1_0 := b1.cell 0 rfl
  have c1_1 := b1.cell 1 rfl
  have c1_2 := b1.cell 2 rfl
  have c1_3 := b1.cell 3 rfl
  have c1_4 := b1.cell 4 rfl
  clear b1
  go_wp2_with fail
  refine (lmessage_v M hmm.out _ _ _).mono ?_
  rintro e w2 ⟨rfl, hb⟩
  have E3 := Lib.hid (E2.out.below hb)
  clear c1_0 c1_1 c1_2 c1_3 c1_4 E2 hb
  have E4 := Lib.hid ((E3.out.push 72 [.int .i64 1, .int .i64 0] (w2.heap.size) (by simp)))
  have b2 := E4.out.bx 3 rfl
  have c2_3 := b2.cell 3 rfl
  clear b2
  have E5 : Hid (Env D w [(w2.heap.size, 72, [.int .i64 (c : Int), .int .i64 d]), (w.heap.size + 1 + 1, 64, [.int .i64 0, .slice none 0 0, .slice none 0 0, .slice none 0 0]), (w.heap.size + 1, 24, [.int .i64 M.fr, .int .i64 M.to_, .int .i64 M.kd, .int .i64 M.nm, .slice ma M.body.length mk]), (w.heap.size, 64, [.int .i64 l.nw, .slice xa l.L.length xj, .slice xb l.ats.length xk, .slice xc l.ft.length xm])] [.bs (.slice ma M.body.length mk) M.body, .rw (.slice xc l.ft.length xm) l.ft.length 2 (fcl l.ft), .rw (.slice xb l.ats.length xk) l.ats.length 1 (icl l.ats), .ms (.slice xa l.L.length xj) l.L] _) := Lib.hid (E4.out.cast (by simp [hcd.out.1, hcd.out.2]))
  have ww1 : IntKind.i64.wrap ((l.L.length : Int) + (c : Int)) = ((l.L.length + c : Nat) : Int) := by rw [IntKind.wrap_i64]; omega
  have t3 : decide ((1000 : Int) < ((l.L.length + c : Nat) : Int)) = true := decide_eq_true (by omega)
  have t3b : decide ((1000 : Int) < (l.L.length : Int) + (c : Int)) = true := decide_eq_true (by omega)
  have b3 := E5.out.bx 3 rfl
  have c3_1 := b3.cell 1 rfl
  clear b3
  have b4 := E5.out.bx 0 rfl
  have c4_0 := b4.cell 0 rfl
  clear b4
  have b5 := E5.out.bx 1 rfl
  have c5_0 := b5.cell 0 rfl
  have c5_1 := b5.cell 1 rfl
  have c5_2 := b5.cell 2 rfl
  have c5_3 := b5.cell 3 rfl
  have f5_0 := b5.frozen 0
  have f5_1 := b5.frozen 1
  have f5_2 := b5.frozen 2
  have f5_3 := b5.frozen 3
  clear b5
  go_wp2
  have E6 : Hid (Env D w [(w2.heap.size, 72, [.int .i64 (c : Int), .int .i64 d]), (w.heap.size + 1 + 1, 64, [.int .i64 0, .slice none 0 0, .slice none 0 0, .slice none 0 0]), (w.heap.size + 1, 24, [.int .i64 M.fr, .int .i64 M.to_, .int .i64 M.kd, .int .i64 M.nm, .slice ma M.body.length mk]), (w.heap.size, 64, [.int .i64 l.nw, .slice xa l.L.length xj, .slice xb l.ats.length xk, .slice xc l.ft.length xm])] [.bs (.slice ma M.body.length mk) M.body, .rw (.slice xc l.ft.length xm) l.ft.length 2 (fcl l.ft), .rw (.slice xb l.ats.length xk) l.ats.length 1 (icl l.ats), .ms (.slice xa l.L.length xj) l.L] _) := Lib.hid (((((E5.out.set 1 0 (.int .i64 0) rfl).set 1 1 (.slice none 0 0) rfl).set 1 2 (.slice none 0 0) rfl).set 1 3 (.slice none 0 0) rfl))
  have hfin := E6.out
  have q6 := (hfin.bx 1 rfl).cell 0 rfl
  have q7 := (hfin.bx 1 rfl).cell 1 rfl
  have q8 := (hfin.bx 1 rfl).cell 2 rfl
  have q9 := (hfin.bx 1 rfl).cell 3 rfl
  exact bodyPost_ret (v := .tuple #[.agg #[.int .i64 0, .slice none 0 0, .slice none 0 0, .slice none 0 0], .int .i64 5]) (by simp [results, Try.results34, go_sem, q6, q7, q8, q9]) rfl ⟨⟨_, rfl, _, _, _, _, _, _, rfl, Lib.hid (Ms.nil _ _), Lib.hid (Rw.nil _ _ _), Lib.hid (Rw.nil _ _ _)⟩, hfin.bel⟩
set_option maxRecDepth 100000 in
set_option maxHeartbeats 1000000 in
theorem Send_ok_n {D : Nat → Prop} (l : Lin) (M : Msg) (c : Nat) (d : Int) (i : Nat) {xa xb xc : Option Addr} {xj xk xm : Nat} {ma : Option Addr} {mk : Nat} {w : World} (h1 : Fct.at w D (.ms (.slice xa l.L.length xj) l.L)) (h2 : Fct.at w D (.rw (.slice xb l.ats.length xk) l.ats.length 1 (icl l.ats))) (h3 : Fct.at w D (.rw (.slice xc l.ft.length xm) l.ft.length 2 (fcl l.ft))) (hm : Fct.at w D (.bs (.slice ma M.body.length mk) M.body)) (hv0 : LinOk l) (hmm0 : msgOk M = true) (hf0 : fate0 l = ((c : Int), d)) (hi0 : PlaceIs l.ats (l.nw + d) i) (hbig0 : (l.L.length ≤ 100000 ∧ l.ats.length ≤ 100000 ∧ l.ft.length ≤ 100000) ∧ ∀ k (h : k < l.L.length), l.L[k].body.length ≤ 1000000) (hmb0 : M.body.length ≤ 1000000) (hnf : ¬ 1000 < l.L.length + c) (h0f0 : l.ft.length = 0) :
    Calls Try.prog 34 #[.agg #[.int .i64 l.nw, .slice xa l.L.length xj, .slice xb l.ats.length xk, .slice xc l.ft.length xm], .agg #[.int .i64 M.fr, .int .i64 M.to_, .int .i64 M.kd, .int .i64 M.nm, .slice ma M.body.length mk]] w fun e w' => RetLE (fun b => D b ∨ w.heap.size ≤ b) (sendL l M i c d) 0 e w' ∧ Below w.heap.size w w' := by
  have E0 := Lib.hid (((((Env.start D w).arg (.ms (.slice xa l.L.length xj) l.L) h1).arg (.rw (.slice xb l.ats.length xk) l.ats.length 1 (icl l.ats)) h2).arg (.rw (.slice xc l.ft.length xm) l.ft.length 2 (fcl l.ft)) h3).arg (.bs (.slice ma M.body.length mk) M.body) hm)
  clear h1 h2 h3 hm
  go_enter Try.func34, Try.ntmps34
  have hv := Lib.hid hv0
  have hmm := Lib.hid hmm0
  have hf := Lib.hid hf0
  have hi := Lib.hid hi0
  have hbig := Lib.hid hbig0
  have hmb := Lib.hid hmb0
  clear hv0 hmm0 hf0 hi0 hbig0 hmb0
  have hb := snd_bounds hv.out
  rw [hf.out] at hb
  dsimp only at hb
  obtain ⟨⟨b1, b2⟩, ⟨b3, b4⟩, b5, b6⟩ := hb
  obtain ⟨l1, l2⟩ : l.L.length ≤ 1000 ∧ l.ats.length ≤ 1000 := by obtain ⟨⟨_, h1, h2, _⟩, _⟩ := hv.out; omega
  have H2 := Lib.hid hv.out.1.2.1
  have c3 : c ≤ 3 := by omega
  clear b3 b4
  have t1 : decide ((0 : Int) < (l.ft.length : Int)) = false := decide_eq_false (by omega)
  have t2 : decide (0 < l.ft.length) = false := decide_eq_false (by omega)
  have hcd : Hid (c = 1 ∧ d = 0) := Lib.hid (by have h9 := hf.out; unfold fate0 at h9; rw [List.length_eq_zero_iff.1 h0f0] at h9; simp only [List.headD_nil, Prod.mk.injEq] at h9; omega)
  have H0F := Lib.hid h0f0
  clear h0f0
  go_wp2_with fail
  have E1 := Lib.hid ((((E0.out.push 64 [.int .i64 l.nw, .slice xa l.L.length xj, .slice xb l.ats.length xk, .slice xc l.ft.length xm] (w.heap.size) (by simp)).push 24 [.int .i64 M.fr, .int .i64 M.to_, .int .i64 M.kd, .int .i64 M.nm, .slice ma M.body.length mk] (w.heap.size + 1) (by simp)).push 64 [.int .i64 0, .slice none 0 0, .slice none 0 0, .slice none 0 0] (w.heap.size + 1 + 1) (by simp)))
  refine (lValid_c l (E1.out.fc 3 rfl) (E1.out.fc 2 rfl) (E1.out.fc 1 rfl) (okOf hv.out) (by omega)).mono ?_
  rintro e w1 ⟨rfl, hb⟩
  have E2 := Lib.hid (E1.out.below hb)
  clear E0 E1 hb
  have b1 := E2.out.bx 1 rfl
  have c1_0 := b1.cell 0 rfl
  have c1_1 := b1.cell 1 rfl
  have c1_2 := b1.cell 2 rfl
  have c1_3 := b1.cell 3 rfl
  have c1_4 := b1.cell 4 rfl
  clear b1
  go_wp2_with fail
  refine (lmessage_v M hmm.out _ _ _).mono ?_
  rintro e w2 ⟨rfl, hb⟩
  have E3 := Lib.hid (E2.out.below hb)
  clear c1_0 c1_1 c1_2 c1_3 c1_4 E2 hb
  have E4 := Lib.hid ((E3.out.push 72 [.int .i64 1, .int .i64 0] (w2.heap.size) (by simp)))
  have b2 := E4.out.bx 3 rfl
  have c2_3 := b2.cell 3 rfl
  clear b2
  have E5 : Hid (Env D w [(w2.heap.size, 72, [.int .i64 (c : Int), .int .i64 d]), (w.heap.size + 1 + 1, 64, [.int .i64 0, .slice none 0 0, .slice none 0 0, .slice none 0 0]), (w.heap.size + 1, 24, [.int .i64 M.fr, .int .i64 M.to_, .int .i64 M.kd, .int .i64 M.nm, .slice ma M.body.length mk]), (w.heap.size, 64, [.int .i64 l.nw, .slice xa l.L.length xj, .slice xb l.ats.length xk, .slice xc l.ft.length xm])] [.bs (.slice ma M.body.length mk) M.body, .rw (.slice xc l.ft.length xm) l.ft.length 2 (fcl l.ft), .rw (.slice xb l.ats.length xk) l.ats.length 1 (icl l.ats), .ms (.slice xa l.L.length xj) l.L] _) := Lib.hid (E4.out.cast (by simp [hcd.out.1, hcd.out.2]))
  have ww1 : IntKind.i64.wrap ((l.L.length : Int) + (c : Int)) = ((l.L.length + c : Nat) : Int) := by rw [IntKind.wrap_i64]; omega
  have t3 : decide ((1000 : Int) < ((l.L.length + c : Nat) : Int)) = false := decide_eq_false (by omega)
  have t3b : decide ((1000 : Int) < (l.L.length : Int) + (c : Int)) = false := decide_eq_false (by omega)
  have b3 := E5.out.bx 3 rfl
  have c3_1 := b3.cell 1 rfl
  clear b3
  have b4 := E5.out.bx 0 rfl
  have c4_0 := b4.cell 0 rfl
  clear b4
  have b5 := E5.out.bx 3 rfl
  have c5_0 := b5.cell 0 rfl
  have c5_2 := b5.cell 2 rfl
  have c5_3 := b5.cell 3 rfl
  clear b5
  go_wp2_with fail
  refine (cloned_c l (E5.out.fc 3 rfl) (E5.out.fc 2 rfl) (E5.out.fc 1 rfl) hbig.out.1 hbig.out.2).mono ?_
  rintro e w3 ⟨⟨sgA, csA, aa, ak, sgL, csL, la, lj, fa, fk, rfl, hOI, hLS, hHe, hFa, hMc⟩, hb⟩
  have E6 : Hid (Env D w ((w2.heap.size, 72, [.int .i64 (c : Int), .int .i64 d]) :: (w.heap.size + 1 + 1, 64, [.int .i64 0, .slice none 0 0, .slice none 0 0, .slice none 0 0]) :: (w.heap.size + 1, 24, [.int .i64 M.fr, .int .i64 M.to_, .int .i64 M.kd, .int .i64 M.nm, .slice ma M.body.length mk]) :: (w.heap.size, 64, [.int .i64 l.nw, .slice xa l.L.length xj, .slice xb l.ats.length xk, .slice xc l.ft.length xm]) :: (sgA ++ sgL)) [.mc csL (l.L), .rw (.slice fa l.ft.length fk) l.ft.length 2 (fcl l.ft), .bs (.slice ma M.body.length mk) M.body, .rw (.slice xc l.ft.length xm) l.ft.length 2 (fcl l.ft), .rw (.slice xb l.ats.length xk) l.ats.length 1 (icl l.ats), .ms (.slice xa l.L.length xj) l.L] w3) := Lib.hid ((E5.out.gotSegF (E5.out.gotSegF (E5.out.gotSeg hb hHe.out) (.rw (.slice fa l.ft.length fk) l.ft.length 2 (fcl l.ft)) hFa.out) (.mc csL (l.L)) hMc.out).cast (by simp))
  clear c2_3 c3_1 c4_0 c5_0 c5_2 c5_3 E3 E4 E5 hb
  clear hFa hMc hHe
  have ww2 : IntKind.i64.wrap (l.nw + d) = l.nw + d := by rw [IntKind.wrap_i64]; omega
  have E7 := Lib.hid ((E6.out.push 64 [.int .i64 l.nw, .slice la l.L.length lj, .slice aa l.ats.length ak, .slice fa l.ft.length fk] (w3.heap.size) (by simp)))
  have b6 := E7.out.bx 4 rfl
  have c6_0 := b6.cell 0 rfl
  clear b6
  have b7 := E7.out.bx 1 rfl
  have c7_1 := b7.cell 1 rfl
  clear b7
  have b8 := E7.out.bx 0 rfl
  have c8_2 := b8.cell 2 rfl
  clear b8
  go_wp2_with fail
  refine (bsi_c hi.out hv.out.2.1 (by omega) (OI.rw hOI.out E7.out (by intro p hp; simp [hp]))).mono ?_
  rintro e w4 ⟨⟨bt, rfl⟩, hb⟩
  have E8 := Lib.hid (E7.out.below hb)
  clear c6_0 c7_1 c8_2 E6 E7 hb
  have b9 := E8.out.bx 1 rfl
  have c9_0 := b9.cell 0 rfl
  clear b9
  go_wp2_with fail
  have hil : i ≤ l.L.length := by have := hi.out.1; have := H2.out; omega
  have hia : i ≤ l.ats.length := hi.out.1
  go_loopg [61] (c) (fun gk s61 wr => ∃ (k : Nat) (sgA : List Bx) (csA : List Value) (aa : Option Addr) (ak : Nat) (sgL : List Bx) (csL : List Value) (la : Option Addr) (lj : Nat), s61 = .int .i64 (k : Int) ∧ Hid (Env D w ((w3.heap.size, 64, [.int .i64 l.nw, .slice la (l.L.length + k) lj, .slice aa (l.ats.length + k) ak, .slice fa l.ft.length fk]) :: (w2.heap.size, 72, [.int .i64 (c : Int), .int .i64 d]) :: (w.heap.size + 1 + 1, 64, [.int .i64 0, .slice none 0 0, .slice none 0 0, .slice none 0 0]) :: (w.heap.size + 1, 24, [.int .i64 M.fr, .int .i64 M.to_, .int .i64 M.kd, .int .i64 M.nm, .slice ma M.body.length mk]) :: (w.heap.size, 64, [.int .i64 l.nw, .slice xa l.L.length xj, .slice xb l.ats.length xk, .slice xc l.ft.length xm]) :: (sgA ++ sgL)) [.mc csL (rep l.L i k M), .rw (.slice fa l.ft.length fk) l.ft.length 2 (fcl l.ft), .bs (.slice ma M.body.length mk) M.body, .rw (.slice xc l.ft.length xm) l.ft.length 2 (fcl l.ft), .rw (.slice xb l.ats.length xk) l.ats.length 1 (icl l.ats), .ms (.slice xa l.L.length xj) l.L] wr) ∧ Hid (OI sgA csA (.slice aa (l.ats.length + k) ak) (rep l.ats i k (l.nw + d))) ∧ Hid (LS sgL csL (.slice la (l.L.length + k) lj) (rep l.L i k M)) ∧ Hid (k ≤ c ∧ gk = c - k))
  case atStart => exact ⟨0, sgA, csA, aa, ak, sgL, csL, la, lj, rfl, Lib.hid ⟨E8.out.bel, E8.out.box, ⟨by rw [rep_zero]; exact E8.out.fc 0 rfl, E8.out.fc 1 rfl, ⟨E8.out.fc 2 rfl, ⟨E8.out.fc 3 rfl, ⟨E8.out.fc 4 rfl, ⟨E8.out.fc 5 rfl, trivial⟩⟩⟩⟩⟩⟩, by rw [rep_zero]; exact hOI, by rw [rep_zero]; exact hLS, Lib.hid ⟨Nat.zero_le _, rfl⟩⟩
  case round =>
    clear c9_0 E8 hOI hLS
    obtain ⟨k, sgA, csA, aa, ak, sgL, csL, la, lj, rfl, EL, hOI, hLS, HA⟩ := hrel
    obtain ⟨a1, a2⟩ := HA.out
    clear HA
    by_cases hy : k = c
    rotate_left
    · have hk : k < c := by omega
      have t4 : decide ((k : Int) < (c : Int)) = true := decide_eq_true (by omega)
      have t5 : decide (k < c) = true := decide_eq_true hk
      clear hy
      have HNL : Hid ((rep l.L i k M).length = l.L.length + k) := Lib.hid (rep_len hil k M)
      have HNA : Hid ((rep l.ats i k (l.nw + d)).length = l.ats.length + k) := Lib.hid (rep_len hia k (l.nw + d))
      go_wp2_with fail
      have E9 := Lib.hid EL.out.drew
      clear EL
      refine wp_regionU (S := fun w' => w'.cell? ⟨w3.heap.size, 1, none⟩ = some (.slice la (l.L.length + k) lj) ∧ w'.cell? ⟨w.heap.size + 1, 0, none⟩ = some (.int .i64 M.fr) ∧ w'.cell? ⟨w.heap.size + 1, 1, none⟩ = some (.int .i64 M.to_) ∧ w'.cell? ⟨w.heap.size + 1, 2, none⟩ = some (.int .i64 M.kd) ∧ w'.cell? ⟨w.heap.size + 1, 3, none⟩ = some (.int .i64 M.nm) ∧ w'.cell? ⟨w.heap.size + 1, 4, none⟩ = some (.slice ma M.body.length mk)) [8] (by kernel_rfl) (⟨((E9.out.bx 0 rfl).cell 1 rfl), ((E9.out.bx 3 rfl).cell 0 rfl), ((E9.out.bx 3 rfl).cell 1 rfl), ((E9.out.bx 3 rfl).cell 2 rfl), ((E9.out.bx 3 rfl).cell 3 rfl), ((E9.out.bx 3 rfl).cell 4 rfl)⟩) (fun hHeld => ?_)
      generalize wr.drew = w5 at *
      refine uTake (i := 0) (some 63) (v := ?_) rfl rfl (by kernel_rfl) (by kernel_rfl) (by kernel_rfl) (by kernel_rfl) (fun _ _ _ h => h) (by rfl) (by assumption) ?_ ?_
      rotate_left
      · (intro wS hSw; (try dsimp only at hSw); go_simp; try with_reducible rfl)
      try simp only [Act.put, List.setIfInBounds_toArray, List.set_cons_zero, List.set_cons_succ]
      refine uTake (i := 1) (some 64) (v := ?_) rfl rfl (by kernel_rfl) (by kernel_rfl) (by kernel_rfl) (by kernel_rfl) (fun _ _ _ h => h) (by rfl) (by assumption) ?_ ?_
      rotate_left
      · (intro wS hSw; (try dsimp only at hSw); go_simp; try with_reducible rfl)
      try simp only [Act.put, List.setIfInBounds_toArray, List.set_cons_zero, List.set_cons_succ]
      refine uTake (i := 2) (some 65) (v := ?_) rfl rfl (by kernel_rfl) (by kernel_rfl) (by kernel_rfl) (by kernel_rfl) (fun _ _ _ h => h) (by rfl) (by assumption) ?_ ?_
      rotate_left
      · (intro wS hSw; (try dsimp only at hSw); go_simp; try with_reducible rfl)
      try simp only [Act.put, List.setIfInBounds_toArray, List.set_cons_zero, List.set_cons_succ]
      refine uTake (i := 3) (some 66) (v := ?_) rfl rfl (by kernel_rfl) (by kernel_rfl) (by kernel_rfl) (by kernel_rfl) (fun _ _ _ h => h) (by rfl) (by assumption) ?_ ?_
      rotate_left
      · (intro wS hSw; (try dsimp only at hSw); go_simp; try with_reducible rfl)
      try simp only [Act.put, List.setIfInBounds_toArray, List.set_cons_zero, List.set_cons_succ]
      refine uReady (rs := [4]) (by kernel_rfl) (by simp) ?_
      refine ReadyU.cons rfl (fun KK hKK => ?_) ReadyU.nil
      go_simp
      refine (copied_c M (E9.out.fc 2 rfl) hmb.out).mono ?_
      rintro e w6 ⟨⟨nba, nbk, rfl, hnb⟩, hb⟩
      have E10 := Lib.hid (E9.out.got (E9.out.below hb) (.bs (.slice nba M.body.length nbk) M.body) hnb.out)
      clear E9 hb hnb
      (try dsimp only)
      clear hHeld
      refine hKK.out _ _ (⟨((E10.out.bx 0 rfl).cell 1 rfl), ((E10.out.bx 3 rfl).cell 0 rfl), ((E10.out.bx 3 rfl).cell 1 rfl), ((E10.out.bx 3 rfl).cell 2 rfl), ((E10.out.bx 3 rfl).cell 3 rfl), ((E10.out.bx 3 rfl).cell 4 rfl)⟩) (fun hHeld => ?_)
      clear hKK KK
      try simp only [Act.put, List.setIfInBounds_toArray, List.set_cons_zero, List.set_cons_succ]
      refine uReady (rs := [5]) (by kernel_rfl) (by simp) ?_
      refine ReadyU.cons rfl (fun KK hKK => ?_) ReadyU.nil
      go_simp
      have E11 := Lib.hid ((E10.out.push 24 [.int .i64 M.fr, .int .i64 M.to_, .int .i64 M.kd, .int .i64 M.nm, .slice nba M.body.length nbk] (w6.heap.size) (by simp)))
      (try dsimp only)
      clear hHeld
      refine hKK.out _ _ (⟨((E11.out.bx 1 rfl).cell 1 rfl), ((E11.out.bx 4 rfl).cell 0 rfl), ((E11.out.bx 4 rfl).cell 1 rfl), ((E11.out.bx 4 rfl).cell 2 rfl), ((E11.out.bx 4 rfl).cell 3 rfl), ((E11.out.bx 4 rfl).cell 4 rfl)⟩) (fun hHeld => ?_)
      clear hKK KK
      try simp only [Act.put, List.setIfInBounds_toArray, List.set_cons_zero, List.set_cons_succ]
      clear E10
      generalize w6.alloc (.cells #[.int .i64 M.fr, .int .i64 M.to_, .int .i64 M.kd, .int .i64 M.nm, .slice nba M.body.length nbk] 24) = w7 at *
      refine uReady (rs := [6]) (by kernel_rfl) (by simp) ?_
      refine ReadyU.cons rfl (fun KK hKK => ?_) ReadyU.nil
      go_simp
      refine (insertL_env (M := M) (i := i) (j := 0) E11.out (A := ((w6.heap.size, 24, [.int .i64 M.fr, .int .i64 M.to_, .int .i64 M.kd, .int .i64 M.nm, .slice nba M.body.length nbk]) :: (w3.heap.size, 64, [.int .i64 l.nw, .slice la (l.L.length + k) lj, .slice aa (l.ats.length + k) ak, .slice fa l.ft.length fk]) :: (w2.heap.size, 72, [.int .i64 (c : Int), .int .i64 d]) :: (w.heap.size + 1 + 1, 64, [.int .i64 0, .slice none 0 0, .slice none 0 0, .slice none 0 0]) :: (w.heap.size + 1, 24, [.int .i64 M.fr, .int .i64 M.to_, .int .i64 M.kd, .int .i64 M.nm, .slice ma M.body.length mk]) :: (w.heap.size, 64, [.int .i64 l.nw, .slice xa l.L.length xj, .slice xb l.ats.length xk, .slice xc l.ft.length xm]) :: sgA)) (sg := sgL) (B' := []) (F := ((w6.heap.size, 24, [.int .i64 M.fr, .int .i64 M.to_, .int .i64 M.kd, .int .i64 M.nm, .slice nba M.body.length nbk]) :: (w3.heap.size, 64, [.int .i64 l.nw, .slice la (l.L.length + k) lj, .slice aa (l.ats.length + k) ak, .slice fa l.ft.length fk]) :: (w2.heap.size, 72, [.int .i64 (c : Int), .int .i64 d]) :: (w.heap.size + 1 + 1, 64, [.int .i64 0, .slice none 0 0, .slice none 0 0, .slice none 0 0]) :: (w.heap.size + 1, 24, [.int .i64 M.fr, .int .i64 M.to_, .int .i64 M.kd, .int .i64 M.nm, .slice ma M.body.length mk]) :: (w.heap.size, 64, [.int .i64 l.nw, .slice xa l.L.length xj, .slice xb l.ats.length xk, .slice xc l.ft.length xm]) :: (sgA ++ sgL))) (by simp) hLS.out (E11.out.fc 1 rfl) (E11.out.fc 0 rfl) rfl HNL.out (by omega) (by omega)).mono ?_
      rintro e w8 ⟨yg, yp, yc, rfl, yO, yE⟩
      have E12 : Hid (Env D w ((w6.heap.size, 24, [.int .i64 M.fr, .int .i64 M.to_, .int .i64 M.kd, .int .i64 M.nm, .slice nba M.body.length nbk]) :: (w3.heap.size, 64, [.int .i64 l.nw, .slice la (l.L.length + k) lj, .slice aa (l.ats.length + k) ak, .slice fa l.ft.length fk]) :: (w2.heap.size, 72, [.int .i64 (c : Int), .int .i64 d]) :: (w.heap.size + 1 + 1, 64, [.int .i64 0, .slice none 0 0, .slice none 0 0, .slice none 0 0]) :: (w.heap.size + 1, 24, [.int .i64 M.fr, .int .i64 M.to_, .int .i64 M.kd, .int .i64 M.nm, .slice ma M.body.length mk]) :: (w.heap.size, 64, [.int .i64 l.nw, .slice xa l.L.length xj, .slice xb l.ats.length xk, .slice xc l.ft.length xm]) :: (sgA ++ [(yg, 24, yc)])) [.mc yc (insL (rep l.L i k M) i M), .bs (.slice nba M.body.length nbk) M.body, .mc csL (rep l.L i k M), .rw (.slice fa l.ft.length fk) l.ft.length 2 (fcl l.ft), .bs (.slice ma M.body.length mk) M.body, .rw (.slice xc l.ft.length xm) l.ft.length 2 (fcl l.ft), .rw (.slice xb l.ats.length xk) l.ats.length 1 (icl l.ats), .ms (.slice xa l.L.length xj) l.L] w8) := Lib.hid (yE.out.cast (by simp))
      clear E11 yE
      (try dsimp only)
      clear hHeld
      refine hKK.out _ _ (⟨((E12.out.bx 1 rfl).cell 1 rfl), ((E12.out.bx 4 rfl).cell 0 rfl), ((E12.out.bx 4 rfl).cell 1 rfl), ((E12.out.bx 4 rfl).cell 2 rfl), ((E12.out.bx 4 rfl).cell 3 rfl), ((E12.out.bx 4 rfl).cell 4 rfl)⟩) (fun hHeld => ?_)
      clear hKK KK
      try simp only [Act.put, List.setIfInBounds_toArray, List.set_cons_zero, List.set_cons_succ]
      refine uTake (i := 7) (some 70) (v := ?_) rfl rfl (by kernel_rfl) (by kernel_rfl) (by kernel_rfl) (by kernel_rfl) (fun _ _ _ h => h) (by rfl) (by assumption) ?_ ?_
      rotate_left
      · (intro wS hSw; (try dsimp only at hSw); go_simp; try with_reducible rfl)
      try simp only [Act.put, List.setIfInBounds_toArray, List.set_cons_zero, List.set_cons_succ]
      have b10 := E12.out.bx 1 rfl
      have c10_1 := b10.cell 1 rfl
      have f10_1 := b10.frozen 1
      clear b10
      refine uReady (rs := [8]) (by kernel_rfl) (by simp) ?_
      refine ReadyU.consU (by kernel_rfl) rfl (fun KK hKK => ?_) ReadyU.nil
      go_simp
      have E13 : Hid (Env D w ((w6.heap.size, 24, [.int .i64 M.fr, .int .i64 M.to_, .int .i64 M.kd, .int .i64 M.nm, .slice nba M.body.length nbk]) :: (w3.heap.size, 64, [.int .i64 l.nw, .slice (some ⟨yg, 0, none⟩) (l.L.length + k + 1) yp, .slice aa (l.ats.length + k) ak, .slice fa l.ft.length fk]) :: (w2.heap.size, 72, [.int .i64 (c : Int), .int .i64 d]) :: (w.heap.size + 1 + 1, 64, [.int .i64 0, .slice none 0 0, .slice none 0 0, .slice none 0 0]) :: (w.heap.size + 1, 24, [.int .i64 M.fr, .int .i64 M.to_, .int .i64 M.kd, .int .i64 M.nm, .slice ma M.body.length mk]) :: (w.heap.size, 64, [.int .i64 l.nw, .slice xa l.L.length xj, .slice xb l.ats.length xk, .slice xc l.ft.length xm]) :: (sgA ++ [(yg, 24, yc)])) [.mc yc (insL (rep l.L i k M) i M), .bs (.slice nba M.body.length nbk) M.body, .mc csL (rep l.L i k M), .rw (.slice fa l.ft.length fk) l.ft.length 2 (fcl l.ft), .bs (.slice ma M.body.length mk) M.body, .rw (.slice xc l.ft.length xm) l.ft.length 2 (fcl l.ft), .rw (.slice xb l.ats.length xk) l.ats.length 1 (icl l.ats), .ms (.slice xa l.L.length xj) l.L] _) := Lib.hid ((E12.out.set 1 1 (.slice (some ⟨yg, 0, none⟩) (l.L.length + k + 1) yp) rfl))
      (try dsimp only)
      (try clear hHeld)
      refine hKK.out _ _ ?_
      clear hKK KK
      try simp only [Act.put, List.setIfInBounds_toArray, List.set_cons_zero, List.set_cons_succ]
      refine uDone (by kernel_rfl) ?_ _
      have b11 := E13.out.bx 1 rfl
      have c11_2 := b11.cell 2 rfl
      clear b11
      have E14 := Lib.hid ((E13.out.push 3 [.int .i64 (l.nw + d)] (w8.heap.size) (by simp)))
      go_wp2_with fail
      refine (insertI_env (x := l.nw + d) (i := i) (j := 0) E14.out (A := [(w8.heap.size, 3, [.int .i64 (l.nw + d)]), (w6.heap.size, 24, [.int .i64 M.fr, .int .i64 M.to_, .int .i64 M.kd, .int .i64 M.nm, .slice nba M.body.length nbk]), (w3.heap.size, 64, [.int .i64 l.nw, .slice (some ⟨yg, 0, none⟩) (l.L.length + k + 1) yp, .slice aa (l.ats.length + k) ak, .slice fa l.ft.length fk]), (w2.heap.size, 72, [.int .i64 (c : Int), .int .i64 d]), (w.heap.size + 1 + 1, 64, [.int .i64 0, .slice none 0 0, .slice none 0 0, .slice none 0 0]), (w.heap.size + 1, 24, [.int .i64 M.fr, .int .i64 M.to_, .int .i64 M.kd, .int .i64 M.nm, .slice ma M.body.length mk]), (w.heap.size, 64, [.int .i64 l.nw, .slice xa l.L.length xj, .slice xb l.ats.length xk, .slice xc l.ft.length xm])]) (sg := sgA) (B' := [(yg, 24, yc)]) (F := ((w8.heap.size, 3, [.int .i64 (l.nw + d)]) :: (w6.heap.size, 24, [.int .i64 M.fr, .int .i64 M.to_, .int .i64 M.kd, .int .i64 M.nm, .slice nba M.body.length nbk]) :: (w3.heap.size, 64, [.int .i64 l.nw, .slice (some ⟨yg, 0, none⟩) (l.L.length + k + 1) yp, .slice aa (l.ats.length + k) ak, .slice fa l.ft.length fk]) :: (w2.heap.size, 72, [.int .i64 (c : Int), .int .i64 d]) :: (w.heap.size + 1 + 1, 64, [.int .i64 0, .slice none 0 0, .slice none 0 0, .slice none 0 0]) :: (w.heap.size + 1, 24, [.int .i64 M.fr, .int .i64 M.to_, .int .i64 M.kd, .int .i64 M.nm, .slice ma M.body.length mk]) :: (w.heap.size, 64, [.int .i64 l.nw, .slice xa l.L.length xj, .slice xb l.ats.length xk, .slice xc l.ft.length xm]) :: (sgA ++ [(yg, 24, yc)]))) (by simp) hOI.out rfl HNA.out (by omega) (by omega)).mono ?_
      rintro e w9 ⟨zg, zp, zc, rfl, zO, zE⟩
      have E15 : Hid (Env D w ((w8.heap.size, 3, [.int .i64 (l.nw + d)]) :: (w6.heap.size, 24, [.int .i64 M.fr, .int .i64 M.to_, .int .i64 M.kd, .int .i64 M.nm, .slice nba M.body.length nbk]) :: (w3.heap.size, 64, [.int .i64 l.nw, .slice (some ⟨yg, 0, none⟩) (l.L.length + k + 1) yp, .slice aa (l.ats.length + k) ak, .slice fa l.ft.length fk]) :: (w2.heap.size, 72, [.int .i64 (c : Int), .int .i64 d]) :: (w.heap.size + 1 + 1, 64, [.int .i64 0, .slice none 0 0, .slice none 0 0, .slice none 0 0]) :: (w.heap.size + 1, 24, [.int .i64 M.fr, .int .i64 M.to_, .int .i64 M.kd, .int .i64 M.nm, .slice ma M.body.length mk]) :: (w.heap.size, 64, [.int .i64 l.nw, .slice xa l.L.length xj, .slice xb l.ats.length xk, .slice xc l.ft.length xm]) :: ((zg, 3, zc) :: [(yg, 24, yc)])) [.mc yc (insL (rep l.L i k M) i M), .bs (.slice nba M.body.length nbk) M.body, .mc csL (rep l.L i k M), .rw (.slice fa l.ft.length fk) l.ft.length 2 (fcl l.ft), .bs (.slice ma M.body.length mk) M.body, .rw (.slice xc l.ft.length xm) l.ft.length 2 (fcl l.ft), .rw (.slice xb l.ats.length xk) l.ats.length 1 (icl l.ats), .ms (.slice xa l.L.length xj) l.L] w9) := Lib.hid (zE.out.cast (by simp))
      clear c10_1 f10_1 c11_2 E12 E13 E14 zE
      have b12 := E15.out.bx 2 rfl
      have c12_2 := b12.cell 2 rfl
      have f12_2 := b12.frozen 2
      clear b12
      have E16 : Hid (Env D w ((w8.heap.size, 3, [.int .i64 (l.nw + d)]) :: (w6.heap.size, 24, [.int .i64 M.fr, .int .i64 M.to_, .int .i64 M.kd, .int .i64 M.nm, .slice nba M.body.length nbk]) :: (w3.heap.size, 64, [.int .i64 l.nw, .slice (some ⟨yg, 0, none⟩) (l.L.length + k + 1) yp, .slice (some ⟨zg, 0, none⟩) (l.ats.length + k + 1) zp, .slice fa l.ft.length fk]) :: (w2.heap.size, 72, [.int .i64 (c : Int), .int .i64 d]) :: (w.heap.size + 1 + 1, 64, [.int .i64 0, .slice none 0 0, .slice none 0 0, .slice none 0 0]) :: (w.heap.size + 1, 24, [.int .i64 M.fr, .int .i64 M.to_, .int .i64 M.kd, .int .i64 M.nm, .slice ma M.body.length mk]) :: (w.heap.size, 64, [.int .i64 l.nw, .slice xa l.L.length xj, .slice xb l.ats.length xk, .slice xc l.ft.length xm]) :: ((zg, 3, zc) :: [(yg, 24, yc)])) [.mc yc (insL (rep l.L i k M) i M), .bs (.slice nba M.body.length nbk) M.body, .mc csL (rep l.L i k M), .rw (.slice fa l.ft.length fk) l.ft.length 2 (fcl l.ft), .bs (.slice ma M.body.length mk) M.body, .rw (.slice xc l.ft.length xm) l.ft.length 2 (fcl l.ft), .rw (.slice xb l.ats.length xk) l.ats.length 1 (icl l.ats), .ms (.slice xa l.L.length xj) l.L] _) := Lib.hid ((E15.out.set 2 2 (.slice (some ⟨zg, 0, none⟩) (l.ats.length + k + 1) zp) rfl))
      rw [rep_insL hil] at yO
      rw [rep_insI hia] at zO
      have hZ := ((E16.out.drop).drop)
      have EZ : Hid (Env D w ((w3.heap.size, 64, [.int .i64 l.nw, .slice (some ⟨yg, 0, none⟩) (l.L.length + k + 1) yp, .slice (some ⟨zg, 0, none⟩) (l.ats.length + k + 1) zp, .slice fa l.ft.length fk]) :: (w2.heap.size, 72, [.int .i64 (c : Int), .int .i64 d]) :: (w.heap.size + 1 + 1, 64, [.int .i64 0, .slice none 0 0, .slice none 0 0, .slice none 0 0]) :: (w.heap.size + 1, 24, [.int .i64 M.fr, .int .i64 M.to_, .int .i64 M.kd, .int .i64 M.nm, .slice ma M.body.length mk]) :: (w.heap.size, 64, [.int .i64 l.nw, .slice xa l.L.length xj, .slice xb l.ats.length xk, .slice xc l.ft.length xm]) :: ((zg, 3, zc) :: [(yg, 24, yc)])) [.mc yc (rep l.L i (k + 1) M), .rw (.slice fa l.ft.length fk) l.ft.length 2 (fcl l.ft), .bs (.slice ma M.body.length mk) M.body, .rw (.slice xc l.ft.length xm) l.ft.length 2 (fcl l.ft), .rw (.slice xb l.ats.length xk) l.ats.length 1 (icl l.ats), .ms (.slice xa l.L.length xj) l.L] _) := Lib.hid ⟨hZ.bel, hZ.box, ⟨by have h9 := hZ.fc 0 rfl; rw [rep_insL hil] at h9; exact h9, ⟨hZ.fc 3 rfl, ⟨hZ.fc 4 rfl, ⟨hZ.fc 5 rfl, ⟨hZ.fc 6 rfl, ⟨hZ.fc 7 rfl, trivial⟩⟩⟩⟩⟩⟩⟩
      clear hZ
      go_wp2
      go_roundg (c - (k + 1))
      case rel => exact ⟨k + 1, _, _, _, _, _, _, _, _, rfl, EZ, zO, yO, Lib.hid ⟨by omega, rfl⟩⟩
      case measure => exact by omega
    have t4 : decide ((k : Int) < (c : Int)) = false := decide_eq_false (by omega)
    have t5 : decide (k < c) = false := decide_eq_false (by omega)
    have HY := Lib.hid hy
    clear hy
    have b10 := EL.out.bx 0 rfl
    have c10_0 := b10.cell 0 rfl
    have c10_1 := b10.cell 1 rfl
    have c10_2 := b10.cell 2 rfl
    have c10_3 := b10.cell 3 rfl
    clear b10
    have b11 := EL.out.bx 2 rfl
    have c11_0 := b11.cell 0 rfl
    have c11_1 := b11.cell 1 rfl
    have c11_2 := b11.cell 2 rfl
    have c11_3 := b11.cell 3 rfl
    have f11_0 := b11.frozen 0
    have f11_1 := b11.frozen 1
    have f11_2 := b11.frozen 2
    have f11_3 := b11.frozen 3
    clear b11
    go_wp2
    have E9 : Hid (Env D w ((w3.heap.size, 64, [.int .i64 l.nw, .slice la (l.L.length + k) lj, .slice aa (l.ats.length + k) ak, .slice fa l.ft.length fk]) :: (w2.heap.size, 72, [.int .i64 (c : Int), .int .i64 d]) :: (w.heap.size + 1 + 1, 64, [.int .i64 l.nw, .slice la (l.L.length + k) lj, .slice aa (l.ats.length + k) ak, .slice fa l.ft.length fk]) :: (w.heap.size + 1, 24, [.int .i64 M.fr, .int .i64 M.to_, .int .i64 M.kd, .int .i64 M.nm, .slice ma M.body.length mk]) :: (w.heap.size, 64, [.int .i64 l.nw, .slice xa l.L.length xj, .slice xb l.ats.length xk, .slice xc l.ft.length xm]) :: (sgA ++ sgL)) [.mc csL (rep l.L i k M), .rw (.slice fa l.ft.length fk) l.ft.length 2 (fcl l.ft), .bs (.slice ma M.body.length mk) M.body, .rw (.slice xc l.ft.length xm) l.ft.length 2 (fcl l.ft), .rw (.slice xb l.ats.length xk) l.ats.length 1 (icl l.ats), .ms (.slice xa l.L.length xj) l.L] _) := Lib.hid (((((EL.out.set 2 0 (.int .i64 l.nw) rfl).set 2 1 (.slice la (l.L.length + k) lj) rfl).set 2 2 (.slice aa (l.ats.length + k) ak) rfl).set 2 3 (.slice fa l.ft.length fk) rfl))
    have hfin := E9.out
    have q0 := (hfin.bx 2 rfl).cell 0 rfl
    have q1 := (hfin.bx 2 rfl).cell 1 rfl
    have q2 := (hfin.bx 2 rfl).cell 2 rfl
    have q3 := (hfin.bx 2 rfl).cell 3 rfl
    have hy := HY.out
    subst hy
    refine bodyPost_ret (v := .tuple #[.agg #[.int .i64 l.nw, .slice la (l.L.length + k) lj, .slice aa (l.ats.length + k) ak, .slice fa l.ft.length fk], .int .i64 0]) (by simp [results, Try.results34, go_sem, q0, q1, q2, q3]) rfl ?_
    exact ⟨⟨_, rfl, RetL.mk rfl (rep_len hil k M) (rep_len hia k (l.nw + d)) (by simp [sendL, H0F.out]) (hLS.out.ms hfin (by intro p hp; simp [hp]) (hfin.fc 0 rfl)) (hOI.out.rw hfin (by intro p hp; simp [hp])) (by have h9 := hfin.out 1 rfl; have e9 : l.ft = [] := List.length_eq_zero_iff.1 H0F.out; simp only [sendL, e9, List.drop_nil] at h9 ⊢; exact h9)⟩, hfin.bel⟩
set_option maxRecDepth 100000 in
set_option maxHeartbeats 1000000 in
theorem Send_full_c {D : Nat → Prop} (l : Lin) (M : Msg) (c : Nat) (d : Int) {xa xb xc : Option Addr} {xj xk xm : Nat} {ma : Option Addr} {mk : Nat} {w : World} (h1 : Fct.at w D (.ms (.slice xa l.L.length xj) l.L)) (h2 : Fct.at w D (.rw (.slice xb l.ats.length xk) l.ats.length 1 (icl l.ats))) (h3 : Fct.at w D (.rw (.slice xc l.ft.length xm) l.ft.length 2 (fcl l.ft))) (hm : Fct.at w D (.bs (.slice ma M.body.length mk) M.body)) (hv0 : LinOk l) (hmm0 : msgOk M = true) (hf0 : fate0 l = ((c : Int), d)) (hfl : 1000 < l.L.length + c) (h0f0 : 0 < l.ft.length) :
    Calls Try.prog 34 #[.agg #[.int .i64 l.nw, .slice xa l.L.length xj, .slice xb l.ats.length xk, .slice xc l.ft.length xm], .agg #[.int .i64 M.fr, .int .i64 M.to_, .int .i64 M.kd, .int .i64 M.nm, .slice ma M.body.length mk]] w fun e w' => RetLE (fun b => D b ∨ w.heap.size ≤ b) L0 5 e w' ∧ Below w.heap.size w w' := by
  have E0 := Lib.hid (((((Env.start D w).arg (.ms (.slice xa l.L.length xj) l.L) h1).arg (.rw (.slice xb l.ats.length xk) l.ats.length 1 (icl l.ats)) h2).arg (.rw (.slice xc l.ft.length xm) l.ft.length 2 (fcl l.ft)) h3).arg (.bs (.slice ma M.body.length mk) M.body) hm)
  clear h1 h2 h3 hm
  go_enter Try.func34, Try.ntmps34
  have hv := Lib.hid hv0
  have hmm := Lib.hid hmm0
  have hf := Lib.hid hf0
  clear hv0 hmm0 hf0
  have hb := snd_bounds hv.out
  rw [hf.out] at hb
  dsimp only at hb
  obtain ⟨⟨b1, b2⟩, ⟨b3, b4⟩, b5, b6⟩ := hb
  obtain ⟨l1, l2⟩ : l.L.length ≤ 1000 ∧ l.ats.length ≤ 1000 := by obtain ⟨⟨_, h1, h2, _⟩, _⟩ := hv.out; omega
  have H2 := Lib.hid hv.out.1.2.1
  have c3 : c ≤ 3 := by omega
  clear b3 b4
  have t1 : decide ((0 : Int) < (l.ft.length : Int)) = true := decide_eq_true (by omega)
  have t2 : decide (0 < l.ft.length) = true := decide_eq_true (by omega)
  have hcd : Hid (l.ft[0] = ((c : Int), d)) := Lib.hid (by rw [← hf.out]; exact head_get h0f0)
  have H0F := Lib.hid h0f0
  go_wp2_with fail
  have E1 := Lib.hid ((((E0.out.push 64 [.int .i64 l.nw, .slice xa l.L.length xj, .slice xb l.ats.length xk, .slice xc l.ft.length xm] (w.heap.size) (by simp)).push 24 [.int .i64 M.fr, .int .i64 M.to_, .int .i64 M.kd, .int .i64 M.nm, .slice ma M.body.length mk] (w.heap.size + 1) (by simp)).push 64 [.int .i64 0, .slice none 0 0, .slice none 0 0, .slice none 0 0] (w.heap.size + 1 + 1) (by simp)))
  refine (lValid_c l (E1.out.fc 3 rfl) (E1.out.fc 2 rfl) (E1.out.fc 1 rfl) (okOf hv.out) (by omega)).mono ?_
  rintro e w1 ⟨rfl, hb⟩
  have E2 := Lib.hid (E1.out.below hb)
  clear E0 E1 hb
  have b1 := E2.out.bx 1 rfl
  have c1_0 := b1.cell 0 rfl
  have c1_1 := b1.cell 1 rfl
  have c1_2 := b1.cell 2 rfl
  have c1_3 := b1.cell 3 rfl
  have c1_4 := b1.cell 4 rfl
  clear b1
  go_wp2_with fail
  refine (lmessage_v M hmm.out _ _ _).mono ?_
  rintro e w2 ⟨rfl, hb⟩
  have E3 := Lib.hid (E2.out.below hb)
  clear c1_0 c1_1 c1_2 c1_3 c1_4 E2 hb
  have E4 := Lib.hid ((E3.out.push 72 [.int .i64 1, .int .i64 0] (w2.heap.size) (by simp)))
  have b2 := E4.out.bx 3 rfl
  have c2_3 := b2.cell 3 rfl
  clear b2
  go_upto_region 5 with (fail)
  clear c2_3 E3
  generalize w2.alloc (.cells #[.int .i64 1, .int .i64 0] 72) = w3 at *
  obtain ⟨xcb, xco, rfl⟩ := Rw.addr (E4.out.fc 1 rfl) (by omega)
  have E5 := Lib.hid (E4.out.elFx 1 rfl rfl h0f0 hcd.out)
  clear E4
  have b3 := E5.out.bx 3 rfl
  have c3_3 := b3.cell 3 rfl
  clear b3
  have z4 := (E5.out.fc 0 rfl).2
  have z5 := (E5.out.fc 1 rfl).2
  have b6 := E5.out.bx 0 rfl
  have c6_0 := b6.cell 0 rfl
  have c6_1 := b6.cell 1 rfl
  have f6_0 := b6.frozen 0
  have f6_1 := b6.frozen 1
  clear b6
  have E6 : Hid (Env D w [(w2.heap.size, 72, [.int .i64 (c : Int), .int .i64 d]), (w.heap.size + 1 + 1, 64, [.int .i64 0, .slice none 0 0, .slice none 0 0, .slice none 0 0]), (w.heap.size + 1, 24, [.int .i64 M.fr, .int .i64 M.to_, .int .i64 M.kd, .int .i64 M.nm, .slice ma M.body.length mk]), (w.heap.size, 64, [.int .i64 l.nw, .slice xa l.L.length xj, .slice xb l.ats.length xk, .slice (some ⟨xcb, xco, none⟩) l.ft.length xm])] [.ce xcb xco (.int .i64 (c : Int)), .ce xcb (xco + 1) (.int .i64 d), .bs (.slice ma M.body.length mk) M.body, .rw (.slice (some ⟨xcb, xco, none⟩) l.ft.length xm) l.ft.length 2 (fcl l.ft), .rw (.slice xb l.ats.length xk) l.ats.length 1 (icl l.ats), .ms (.slice xa l.L.length xj) l.L] _) := Lib.hid (((E5.out.set 0 0 (.int .i64 (c : Int)) rfl).set 0 1 (.int .i64 d) rfl))
  have ww1 : IntKind.i64.wrap ((l.L.length : Int) + (c : Int)) = ((l.L.length + c : Nat) : Int) := by rw [IntKind.wrap_i64]; omega
  have t3 : decide ((1000 : Int) < ((l.L.length + c : Nat) : Int)) = true := decide_eq_true (by omega)
  have t3b : decide ((1000 : Int) < (l.L.length : Int) + (c : Int)) = true := decide_eq_true (by omega)
  have b7 := E6.out.bx 3 rfl
  have c7_1 := b7.cell 1 rfl
  clear b7
  have b8 := E6.out.bx 0 rfl
  have c8_0 := b8.cell 0 rfl
  clear b8
  have b9 := E6.out.bx 1 rfl
  have c9_0 := b9.cell 0 rfl
  have c9_1 := b9.cell 1 rfl
  have c9_2 := b9.cell 2 rfl
  have c9_3 := b9.cell 3 rfl
  have f9_0 := b9.frozen 0
  have f9_1 := b9.frozen 1
  have f9_2 := b9.frozen 2
  have f9_3 := b9.frozen 3
  clear b9
  go_wp2
  have E7 : Hid (Env D w [(w2.heap.size, 72, [.int .i64 (c : Int), .int .i64 d]), (w.heap.size + 1 + 1, 64, [.int .i64 0, .slice none 0 0, .slice none 0 0, .slice none 0 0]), (w.heap.size + 1, 24, [.int .i64 M.fr, .int .i64 M.to_, .int .i64 M.kd, .int .i64 M.nm, .slice ma M.body.length mk]), (w.heap.size, 64, [.int .i64 l.nw, .slice xa l.L.length xj, .slice xb l.ats.length xk, .slice (some ⟨xcb, xco, none⟩) l.ft.length xm])] [.ce xcb xco (.int .i64 (c : Int)), .ce xcb (xco + 1) (.int .i64 d), .bs (.slice ma M.body.length mk) M.body, .rw (.slice (some ⟨xcb, xco, none⟩) l.ft.length xm) l.ft.length 2 (fcl l.ft), .rw (.slice xb l.ats.length xk) l.ats.length 1 (icl l.ats), .ms (.slice xa l.L.length xj) l.L] _) := Lib.hid (((((E6.out.set 1 0 (.int .i64 0) rfl).set 1 1 (.slice none 0 0) rfl).set 1 2 (.slice none 0 0) rfl).set 1 3 (.slice none 0 0) rfl))
  have hfin := E7.out
  have q10 := (hfin.bx 1 rfl).cell 0 rfl
  have q11 := (hfin.bx 1 rfl).cell 1 rfl
  have q12 := (hfin.bx 1 rfl).cell 2 rfl
  have q13 := (hfin.bx 1 rfl).cell 3 rfl
  exact bodyPost_ret (v := .tuple #[.agg #[.int .i64 0, .slice none 0 0, .slice none 0 0, .slice none 0 0], .int .i64 5]) (by simp [results, Try.results34, go_sem, q10, q11, q12, q13]) rfl ⟨⟨_, rfl, _, _, _, _, _, _, rfl, Lib.hid (Ms.nil _ _), Lib.hid (Rw.nil _ _ _), Lib.hid (Rw.nil _ _ _)⟩, hfin.bel⟩
set_option maxRecDepth 100000 in
set_option maxHeartbeats 1000000 in
theorem Send_ok_c {D : Nat → Prop} (l : Lin) (M : Msg) (c : Nat) (d : Int) (i : Nat) {xa xb xc : Option Addr} {xj xk xm : Nat} {ma : Option Addr} {mk : Nat} {w : World} (h1 : Fct.at w D (.ms (.slice xa l.L.length xj) l.L)) (h2 : Fct.at w D (.rw (.slice xb l.ats.length xk) l.ats.length 1 (icl l.ats))) (h3 : Fct.at w D (.rw (.slice xc l.ft.length xm) l.ft.length 2 (fcl l.ft))) (hm : Fct.at w D (.bs (.slice ma M.body.length mk) M.body)) (hv0 : LinOk l) (hmm0 : msgOk M = true) (hf0 : fate0 l = ((c : Int), d)) (hi0 : PlaceIs l.ats (l.nw + d) i) (hbig0 : (l.L.length ≤ 100000 ∧ l.ats.length ≤ 100000 ∧ l.ft.length ≤ 100000) ∧ ∀ k (h : k < l.L.length), l.L[k].body.length ≤ 1000000) (hmb0 : M.body.length ≤ 1000000) (hnf : ¬ 1000 < l.L.length + c) (h0f0 : 0 < l.ft.length) :
    Calls Try.prog 34 #[.agg #[.int .i64 l.nw, .slice xa l.L.length xj, .slice xb l.ats.length xk, .slice xc l.ft.length xm], .agg #[.int .i64 M.fr, .int .i64 M.to_, .int .i64 M.kd, .int .i64 M.nm, .slice ma M.body.length mk]] w fun e w' => RetLE (fun b => D b ∨ w.heap.size ≤ b) (sendL l M i c d) 0 e w' ∧ Below w.heap.size w w' := by
  have E0 := Lib.hid (((((Env.start D w).arg (.ms (.slice xa l.L.length xj) l.L) h1).arg (.rw (.slice xb l.ats.length xk) l.ats.length 1 (icl l.ats)) h2).arg (.rw (.slice xc l.ft.length xm) l.ft.length 2 (fcl l.ft)) h3).arg (.bs (.slice ma M.body.length mk) M.body) hm)
  clear h1 h2 h3 hm
  go_enter Try.func34, Try.ntmps34
  have hv := Lib.hid hv0
  have hmm := Lib.hid hmm0
  have hf := Lib.hid hf0
  have hi := Lib.hid hi0
  have hbig := Lib.hid hbig0
  have hmb := Lib.hid hmb0
  clear hv0 hmm0 hf0 hi0 hbig0 hmb0
  have hb := snd_bounds hv.out
  rw [hf.out] at hb
  dsimp only at hb
  obtain ⟨⟨b1, b2⟩, ⟨b3, b4⟩, b5, b6⟩ := hb
  obtain ⟨l1, l2⟩ : l.L.length ≤ 1000 ∧ l.ats.length ≤ 1000 := by obtain ⟨⟨_, h1, h2, _⟩, _⟩ := hv.out; omega
  have H2 := Lib.hid hv.out.1.2.1
  have c3 : c ≤ 3 := by omega
  clear b3 b4
  have t1 : decide ((0 : Int) < (l.ft.length : Int)) = true := decide_eq_true (by omega)
  have t2 : decide (0 < l.ft.length) = true := decide_eq_true (by omega)
  have hcd : Hid (l.ft[0] = ((c : Int), d)) := Lib.hid (by rw [← hf.out]; exact head_get h0f0)
  have H0F := Lib.hid h0f0
  go_wp2_with fail
  have E1 := Lib.hid ((((E0.out.push 64 [.int .i64 l.nw, .slice xa l.L.length xj, .slice xb l.ats.length xk, .slice xc l.ft.length xm] (w.heap.size) (by simp)).push 24 [.int .i64 M.fr, .int .i64 M.to_, .int .i64 M.kd, .int .i64 M.nm, .slice ma M.body.length mk] (w.heap.size + 1) (by simp)).push 64 [.int .i64 0, .slice none 0 0, .slice none 0 0, .slice none 0 0] (w.heap.size + 1 + 1) (by simp)))
  refine (lValid_c l (E1.out.fc 3 rfl) (E1.out.fc 2 rfl) (E1.out.fc 1 rfl) (okOf hv.out) (by omega)).mono ?_
  rintro e w1 ⟨rfl, hb⟩
  have E2 := Lib.hid (E1.out.below hb)
  clear E0 E1 hb
  have b1 := E2.out.bx 1 rfl
  have c1_0 := b1.cell 0 rfl
  have c1_1 := b1.cell 1 rfl
  have c1_2 := b1.cell 2 rfl
  have c1_3 := b1.cell 3 rfl
  have c1_4 := b1.cell 4 rfl
  clear b1
  go_wp2_with fail
  refine (lmessage_v M hmm.out _ _ _).mono ?_
  rintro e w2 ⟨rfl, hb⟩
  have E3 := Lib.hid (E2.out.below hb)
  clear c1_0 c1_1 c1_2 c1_3 c1_4 E2 hb
  have E4 := Lib.hid ((E3.out.push 72 [.int .i64 1, .int .i64 0] (w2.heap.size) (by simp)))
  have b2 := E4.out.bx 3 rfl
  have c2_3 := b2.cell 3 rfl
  clear b2
  go_upto_region 5 with (fail)
  clear c2_3 E3
  generalize w2.alloc (.cells #[.int .i64 1, .int .i64 0] 72) = w3 at *
  obtain ⟨xcb, xco, rfl⟩ := Rw.addr (E4.out.fc 1 rfl) (by omega)
  have E5 := Lib.hid (E4.out.elFx 1 rfl rfl h0f0 hcd.out)
  clear E4
  have b3 := E5.out.bx 3 rfl
  have c3_3 := b3.cell 3 rfl
  clear b3
  have z4 := (E5.out.fc 0 rfl).2
  have z5 := (E5.out.fc 1 rfl).2
  have b6 := E5.out.bx 0 rfl
  have c6_0 := b6.cell 0 rfl
  have c6_1 := b6.cell 1 rfl
  have f6_0 := b6.frozen 0
  have f6_1 := b6.frozen 1
  clear b6
  have E6 : Hid (Env D w [(w2.heap.size, 72, [.int .i64 (c : Int), .int .i64 d]), (w.heap.size + 1 + 1, 64, [.int .i64 0, .slice none 0 0, .slice none 0 0, .slice none 0 0]), (w.heap.size + 1, 24, [.int .i64 M.fr, .int .i64 M.to_, .int .i64 M.kd, .int .i64 M.nm, .slice ma M.body.length mk]), (w.heap.size, 64, [.int .i64 l.nw, .slice xa l.L.length xj, .slice xb l.ats.length xk, .slice (some ⟨xcb, xco, none⟩) l.ft.length xm])] [.ce xcb xco (.int .i64 (c : Int)), .ce xcb (xco + 1) (.int .i64 d), .bs (.slice ma M.body.length mk) M.body, .rw (.slice (some ⟨xcb, xco, none⟩) l.ft.length xm) l.ft.length 2 (fcl l.ft), .rw (.slice xb l.ats.length xk) l.ats.length 1 (icl l.ats), .ms (.slice xa l.L.length xj) l.L] _) := Lib.hid (((E5.out.set 0 0 (.int .i64 (c : Int)) rfl).set 0 1 (.int .i64 d) rfl))
  have ww1 : IntKind.i64.wrap ((l.L.length : Int) + (c : Int)) = ((l.L.length + c : Nat) : Int) := by rw [IntKind.wrap_i64]; omega
  have t3 : decide ((1000 : Int) < ((l.L.length + c : Nat) : Int)) = false := decide_eq_false (by omega)
  have t3b : decide ((1000 : Int) < (l.L.length : Int) + (c : Int)) = false := decide_eq_false (by omega)
  have b7 := E6.out.bx 3 rfl
  have c7_1 := b7.cell 1 rfl
  clear b7
  have b8 := E6.out.bx 0 rfl
  have c8_0 := b8.cell 0 rfl
  clear b8
  have b9 := E6.out.bx 3 rfl
  have c9_0 := b9.cell 0 rfl
  have c9_2 := b9.cell 2 rfl
  have c9_3 := b9.cell 3 rfl
  clear b9
  go_wp2_with fail
  refine (cloned_c l (E6.out.fc 5 rfl) (E6.out.fc 4 rfl) (E6.out.fc 3 rfl) hbig.out.1 hbig.out.2).mono ?_
  rintro e w4 ⟨⟨sgA, csA, aa, ak, sgL, csL, la, lj, fa, fk, rfl, hOI, hLS, hHe, hFa, hMc⟩, hb⟩
  have E7 : Hid (Env D w ((w2.heap.size, 72, [.int .i64 (c : Int), .int .i64 d]) :: (w.heap.size + 1 + 1, 64, [.int .i64 0, .slice none 0 0, .slice none 0 0, .slice none 0 0]) :: (w.heap.size + 1, 24, [.int .i64 M.fr, .int .i64 M.to_, .int .i64 M.kd, .int .i64 M.nm, .slice ma M.body.length mk]) :: (w.heap.size, 64, [.int .i64 l.nw, .slice xa l.L.length xj, .slice xb l.ats.length xk, .slice (some ⟨xcb, xco, none⟩) l.ft.length xm]) :: (sgA ++ sgL)) [.mc csL (l.L), .rw (.slice fa l.ft.length fk) l.ft.length 2 (fcl l.ft), .ce xcb xco (.int .i64 (c : Int)), .ce xcb (xco + 1) (.int .i64 d), .bs (.slice ma M.body.length mk) M.body, .rw (.slice (some ⟨xcb, xco, none⟩) l.ft.length xm) l.ft.length 2 (fcl l.ft), .rw (.slice xb l.ats.length xk) l.ats.length 1 (icl l.ats), .ms (.slice xa l.L.length xj) l.L] w4) := Lib.hid ((E6.out.gotSegF (E6.out.gotSegF (E6.out.gotSeg hb hHe.out) (.rw (.slice fa l.ft.length fk) l.ft.length 2 (fcl l.ft)) hFa.out) (.mc csL (l.L)) hMc.out).cast (by simp))
  clear c3_3 z4 z5 c6_0 c6_1 f6_0 f6_1 c7_1 c8_0 c9_0 c9_2 c9_3 E5 E6 hb
  clear hFa hMc hHe
  go_upto_region 10 with (fail)
  have E8 := Lib.hid ((E7.out.push 64 [.int .i64 l.nw, .slice la l.L.length lj, .slice aa l.ats.length ak, .slice fa l.ft.length fk] (w4.heap.size) (by simp)))
  clear E7
  generalize w4.alloc (.cells #[.int .i64 l.nw, .slice la l.L.length lj, .slice aa l.ats.length ak, .slice fa l.ft.length fk] 64) = w5 at *
  obtain ⟨fb, fo, rfl⟩ := Rw.addr (E8.out.fc 1 rfl) (by omega)
  obtain ⟨A, hA⟩ : ∃ A : Addr, (if fk = 1 then some (⟨fb, fo, none⟩ : Addr) else some ⟨fb, fo + 2, none⟩) = some A := by split <;> exact ⟨_, rfl⟩
  have hcap : l.ft.length ≤ fk := by obtain ⟨_, _, h9, h8, _⟩ := E8.out.fc 1 rfl; cases h9; exact h8
  have hcap1 : 1 ≤ fk := by omega
  have hlf1 : 1 ≤ l.ft.length := h0f0
  have E9 := Lib.hid (E8.out.note (.rw (.slice (some A) (l.ft.length - 1) (fk - 1)) (l.ft.drop 1).length 2 (fcl (l.ft.drop 1))) (Rw.tail (E8.out.fc 1 rfl) h0f0 hA))
  clear E8
  have b10 := E9.out.bx 0 rfl
  have c10_3 := b10.cell 3 rfl
  clear b10
  have b11 := E9.out.bx 0 rfl
  have f11_3 := b11.frozen 3
  clear b11
  have ww2 : IntKind.i64.wrap (l.nw + d) = l.nw + d := by rw [IntKind.wrap_i64]; omega
  have E10 : Hid (Env D w ((w4.heap.size, 64, [.int .i64 l.nw, .slice la l.L.length lj, .slice aa l.ats.length ak, .slice (some A) (l.ft.length - 1) (fk - 1)]) :: (w2.heap.size, 72, [.int .i64 (c : Int), .int .i64 d]) :: (w.heap.size + 1 + 1, 64, [.int .i64 0, .slice none 0 0, .slice none 0 0, .slice none 0 0]) :: (w.heap.size + 1, 24, [.int .i64 M.fr, .int .i64 M.to_, .int .i64 M.kd, .int .i64 M.nm, .slice ma M.body.length mk]) :: (w.heap.size, 64, [.int .i64 l.nw, .slice xa l.L.length xj, .slice xb l.ats.length xk, .slice (some ⟨xcb, xco, none⟩) l.ft.length xm]) :: (sgA ++ sgL)) [.rw (.slice (some A) (l.ft.length - 1) (fk - 1)) (l.ft.drop 1).length 2 (fcl (l.ft.drop 1)), .mc csL (l.L), .rw (.slice (some ⟨fb, fo, none⟩) l.ft.length fk) l.ft.length 2 (fcl l.ft), .ce xcb xco (.int .i64 (c : Int)), .ce xcb (xco + 1) (.int .i64 d), .bs (.slice ma M.body.length mk) M.body, .rw (.slice (some ⟨xcb, xco, none⟩) l.ft.length xm) l.ft.length 2 (fcl l.ft), .rw (.slice xb l.ats.length xk) l.ats.length 1 (icl l.ats), .ms (.slice xa l.L.length xj) l.L] _) := Lib.hid ((E9.out.set 0 3 (.slice (some A) (l.ft.length - 1) (fk - 1)) rfl))
  have b12 := E10.out.bx 4 rfl
  have c12_0 := b12.cell 0 rfl
  clear b12
  have b13 := E10.out.bx 1 rfl
  have c13_1 := b13.cell 1 rfl
  clear b13
  have b14 := E10.out.bx 0 rfl
  have c14_2 := b14.cell 2 rfl
  clear b14
  go_wp2_with fail
  refine (bsi_c hi.out hv.out.2.1 (by omega) (OI.rw hOI.out E10.out (by intro p hp; simp [hp]))).mono ?_
  rintro e w6 ⟨⟨bt, rfl⟩, hb⟩
  have E11 := Lib.hid (E10.out.below hb)
  clear c10_3 f11_3 c12_0 c13_1 c14_2 E9 E10 hb
  have b15 := E11.out.bx 1 rfl
  have c15_0 := b15.cell 0 rfl
  clear b15
  go_wp2_with fail
  have hil : i ≤ l.L.length := by have := hi.out.1; have := H2.out; omega
  have hia : i ≤ l.ats.length := hi.out.1
  go_loopg [61] (c) (fun gk s61 wr => ∃ (k : Nat) (sgA : List Bx) (csA : List Value) (aa : Option Addr) (ak : Nat) (sgL : List Bx) (csL : List Value) (la : Option Addr) (lj : Nat), s61 = .int .i64 (k : Int) ∧ Hid (Env D w ((w4.heap.size, 64, [.int .i64 l.nw, .slice la (l.L.length + k) lj, .slice aa (l.ats.length + k) ak, .slice (some A) (l.ft.length - 1) (fk - 1)]) :: (w2.heap.size, 72, [.int .i64 (c : Int), .int .i64 d]) :: (w.heap.size + 1 + 1, 64, [.int .i64 0, .slice none 0 0, .slice none 0 0, .slice none 0 0]) :: (w.heap.size + 1, 24, [.int .i64 M.fr, .int .i64 M.to_, .int .i64 M.kd, .int .i64 M.nm, .slice ma M.body.length mk]) :: (w.heap.size, 64, [.int .i64 l.nw, .slice xa l.L.length xj, .slice xb l.ats.length xk, .slice (some ⟨xcb, xco, none⟩) l.ft.length xm]) :: (sgA ++ sgL)) [.mc csL (rep l.L i k M), .rw (.slice (some A) (l.ft.length - 1) (fk - 1)) (l.ft.drop 1).length 2 (fcl (l.ft.drop 1)), .rw (.slice (some ⟨fb, fo, none⟩) l.ft.length fk) l.ft.length 2 (fcl l.ft), .ce xcb xco (.int .i64 (c : Int)), .ce xcb (xco + 1) (.int .i64 d), .bs (.slice ma M.body.length mk) M.body, .rw (.slice (some ⟨xcb, xco, none⟩) l.ft.length xm) l.ft.length 2 (fcl l.ft), .rw (.slice xb l.ats.length xk) l.ats.length 1 (icl l.ats), .ms (.slice xa l.L.length xj) l.L] wr) ∧ Hid (OI sgA csA (.slice aa (l.ats.length + k) ak) (rep l.ats i k (l.nw + d))) ∧ Hid (LS sgL csL (.slice la (l.L.length + k) lj) (rep l.L i k M)) ∧ Hid (k ≤ c ∧ gk = c - k))
  case atStart => exact ⟨0, sgA, csA, aa, ak, sgL, csL, la, lj, rfl, Lib.hid ⟨E11.out.bel, E11.out.box, ⟨by rw [rep_zero]; exact E11.out.fc 1 rfl, E11.out.fc 0 rfl, ⟨E11.out.fc 2 rfl, ⟨E11.out.fc 3 rfl, ⟨E11.out.fc 4 rfl, ⟨E11.out.fc 5 rfl, ⟨E11.out.fc 6 rfl, ⟨E11.out.fc 7 rfl, ⟨E11.out.fc 8 rfl, trivial⟩⟩⟩⟩⟩⟩⟩⟩⟩, by rw [rep_zero]; exact hOI, by rw [rep_zero]; exact hLS, Lib.hid ⟨Nat.zero_le _, rfl⟩⟩
  case round =>
    clear c15_0 E11 hOI hLS
    obtain ⟨k, sgA, csA, aa, ak, sgL, csL, la, lj, rfl, EL, hOI, hLS, HA⟩ := hrel
    obtain ⟨a1, a2⟩ := HA.out
    clear HA
    by_cases hy : k = c
    rotate_left
    · have hk : k < c := by omega
      have t4 : decide ((k : Int) < (c : Int)) = true := decide_eq_true (by omega)
      have t5 : decide (k < c) = true := decide_eq_true hk
      clear hy
      have HNL : Hid ((rep l.L i k M).length = l.L.length + k) := Lib.hid (rep_len hil k M)
      have HNA : Hid ((rep l.ats i k (l.nw + d)).length = l.ats.length + k) := Lib.hid (rep_len hia k (l.nw + d))
      go_wp2_with fail
      have E12 := Lib.hid EL.out.drew
      clear EL
      refine wp_regionU (S := fun w' => w'.cell? ⟨w4.heap.size, 1, none⟩ = some (.slice la (l.L.length + k) lj) ∧ w'.cell? ⟨w.heap.size + 1, 0, none⟩ = some (.int .i64 M.fr) ∧ w'.cell? ⟨w.heap.size + 1, 1, none⟩ = some (.int .i64 M.to_) ∧ w'.cell? ⟨w.heap.size + 1, 2, none⟩ = some (.int .i64 M.kd) ∧ w'.cell? ⟨w.heap.size + 1, 3, none⟩ = some (.int .i64 M.nm) ∧ w'.cell? ⟨w.heap.size + 1, 4, none⟩ = some (.slice ma M.body.length mk)) [8] (by kernel_rfl) (⟨((E12.out.bx 0 rfl).cell 1 rfl), ((E12.out.bx 3 rfl).cell 0 rfl), ((E12.out.bx 3 rfl).cell 1 rfl), ((E12.out.bx 3 rfl).cell 2 rfl), ((E12.out.bx 3 rfl).cell 3 rfl), ((E12.out.bx 3 rfl).cell 4 rfl)⟩) (fun hHeld => ?_)
      generalize wr.drew = w7 at *
      refine uTake (i := 0) (some 63) (v := ?_) rfl rfl (by kernel_rfl) (by kernel_rfl) (by kernel_rfl) (by kernel_rfl) (fun _ _ _ h => h) (by rfl) (by assumption) ?_ ?_
      rotate_left
      · (intro wS hSw; (try dsimp only at hSw); go_simp; try with_reducible rfl)
      try simp only [Act.put, List.setIfInBounds_toArray, List.set_cons_zero, List.set_cons_succ]
      refine uTake (i := 1) (some 64) (v := ?_) rfl rfl (by kernel_rfl) (by kernel_rfl) (by kernel_rfl) (by kernel_rfl) (fun _ _ _ h => h) (by rfl) (by assumption) ?_ ?_
      rotate_left
      · (intro wS hSw; (try dsimp only at hSw); go_simp; try with_reducible rfl)
      try simp only [Act.put, List.setIfInBounds_toArray, List.set_cons_zero, List.set_cons_succ]
      refine uTake (i := 2) (some 65) (v := ?_) rfl rfl (by kernel_rfl) (by kernel_rfl) (by kernel_rfl) (by kernel_rfl) (fun _ _ _ h => h) (by rfl) (by assumption) ?_ ?_
      rotate_left
      · (intro wS hSw; (try dsimp only at hSw); go_simp; try with_reducible rfl)
      try simp only [Act.put, List.setIfInBounds_toArray, List.set_cons_zero, List.set_cons_succ]
      refine uTake (i := 3) (some 66) (v := ?_) rfl rfl (by kernel_rfl) (by kernel_rfl) (by kernel_rfl) (by kernel_rfl) (fun _ _ _ h => h) (by rfl) (by assumption) ?_ ?_
      rotate_left
      · (intro wS hSw; (try dsimp only at hSw); go_simp; try with_reducible rfl)
      try simp only [Act.put, List.setIfInBounds_toArray, List.set_cons_zero, List.set_cons_succ]
      refine uReady (rs := [4]) (by kernel_rfl) (by simp) ?_
      refine ReadyU.cons rfl (fun KK hKK => ?_) ReadyU.nil
      go_simp
      refine (copied_c M (E12.out.fc 5 rfl) hmb.out).mono ?_
      rintro e w8 ⟨⟨nba, nbk, rfl, hnb⟩, hb⟩
      have E13 := Lib.hid (E12.out.got (E12.out.below hb) (.bs (.slice nba M.body.length nbk) M.body) hnb.out)
      clear E12 hb hnb
      (try dsimp only)
      clear hHeld
      refine hKK.out _ _ (⟨((E13.out.bx 0 rfl).cell 1 rfl), ((E13.out.bx 3 rfl).cell 0 rfl), ((E13.out.bx 3 rfl).cell 1 rfl), ((E13.out.bx 3 rfl).cell 2 rfl), ((E13.out.bx 3 rfl).cell 3 rfl), ((E13.out.bx 3 rfl).cell 4 rfl)⟩) (fun hHeld => ?_)
      clear hKK KK
      try simp only [Act.put, List.setIfInBounds_toArray, List.set_cons_zero, List.set_cons_succ]
      refine uReady (rs := [5]) (by kernel_rfl) (by simp) ?_
      refine ReadyU.cons rfl (fun KK hKK => ?_) ReadyU.nil
      go_simp
      have E14 := Lib.hid ((E13.out.push 24 [.int .i64 M.fr, .int .i64 M.to_, .int .i64 M.kd, .int .i64 M.nm, .slice nba M.body.length nbk] (w8.heap.size) (by simp)))
      (try dsimp only)
      clear hHeld
      refine hKK.out _ _ (⟨((E14.out.bx 1 rfl).cell 1 rfl), ((E14.out.bx 4 rfl).cell 0 rfl), ((E14.out.bx 4 rfl).cell 1 rfl), ((E14.out.bx 4 rfl).cell 2 rfl), ((E14.out.bx 4 rfl).cell 3 rfl), ((E14.out.bx 4 rfl).cell 4 rfl)⟩) (fun hHeld => ?_)
      clear hKK KK
      try simp only [Act.put, List.setIfInBounds_toArray, List.set_cons_zero, List.set_cons_succ]
      clear E13
      generalize w8.alloc (.cells #[.int .i64 M.fr, .int .i64 M.to_, .int .i64 M.kd, .int .i64 M.nm, .slice nba M.body.length nbk] 24) = w9 at *
      refine uReady (rs := [6]) (by kernel_rfl) (by simp) ?_
      refine ReadyU.cons rfl (fun KK hKK => ?_) ReadyU.nil
      go_simp
      refine (insertL_env (M := M) (i := i) (j := 0) E14.out (A := ((w8.heap.size, 24, [.int .i64 M.fr, .int .i64 M.to_, .int .i64 M.kd, .int .i64 M.nm, .slice nba M.body.length nbk]) :: (w4.heap.size, 64, [.int .i64 l.nw, .slice la (l.L.length + k) lj, .slice aa (l.ats.length + k) ak, .slice (some A) (l.ft.length - 1) (fk - 1)]) :: (w2.heap.size, 72, [.int .i64 (c : Int), .int .i64 d]) :: (w.heap.size + 1 + 1, 64, [.int .i64 0, .slice none 0 0, .slice none 0 0, .slice none 0 0]) :: (w.heap.size + 1, 24, [.int .i64 M.fr, .int .i64 M.to_, .int .i64 M.kd, .int .i64 M.nm, .slice ma M.body.length mk]) :: (w.heap.size, 64, [.int .i64 l.nw, .slice xa l.L.length xj, .slice xb l.ats.length xk, .slice (some ⟨xcb, xco, none⟩) l.ft.length xm]) :: sgA)) (sg := sgL) (B' := []) (F := ((w8.heap.size, 24, [.int .i64 M.fr, .int .i64 M.to_, .int .i64 M.kd, .int .i64 M.nm, .slice nba M.body.length nbk]) :: (w4.heap.size, 64, [.int .i64 l.nw, .slice la (l.L.length + k) lj, .slice aa (l.ats.length + k) ak, .slice (some A) (l.ft.length - 1) (fk - 1)]) :: (w2.heap.size, 72, [.int .i64 (c : Int), .int .i64 d]) :: (w.heap.size + 1 + 1, 64, [.int .i64 0, .slice none 0 0, .slice none 0 0, .slice none 0 0]) :: (w.heap.size + 1, 24, [.int .i64 M.fr, .int .i64 M.to_, .int .i64 M.kd, .int .i64 M.nm, .slice ma M.body.length mk]) :: (w.heap.size, 64, [.int .i64 l.nw, .slice xa l.L.length xj, .slice xb l.ats.length xk, .slice (some ⟨xcb, xco, none⟩) l.ft.length xm]) :: (sgA ++ sgL))) (by simp) hLS.out (E14.out.fc 1 rfl) (E14.out.fc 0 rfl) rfl HNL.out (by omega) (by omega)).mono ?_
      rintro e w10 ⟨yg, yp, yc, rfl, yO, yE⟩
      have E15 : Hid (Env D w ((w8.heap.size, 24, [.int .i64 M.fr, .int .i64 M.to_, .int .i64 M.kd, .int .i64 M.nm, .slice nba M.body.length nbk]) :: (w4.heap.size, 64, [.int .i64 l.nw, .slice la (l.L.length + k) lj, .slice aa (l.ats.length + k) ak, .slice (some A) (l.ft.length - 1) (fk - 1)]) :: (w2.heap.size, 72, [.int .i64 (c : Int), .int .i64 d]) :: (w.heap.size + 1 + 1, 64, [.int .i64 0, .slice none 0 0, .slice none 0 0, .slice none 0 0]) :: (w.heap.size + 1, 24, [.int .i64 M.fr, .int .i64 M.to_, .int .i64 M.kd, .int .i64 M.nm, .slice ma M.body.length mk]) :: (w.heap.size, 64, [.int .i64 l.nw, .slice xa l.L.length xj, .slice xb l.ats.length xk, .slice (some ⟨xcb, xco, none⟩) l.ft.length xm]) :: (sgA ++ [(yg, 24, yc)])) [.mc yc (insL (rep l.L i k M) i M), .bs (.slice nba M.body.length nbk) M.body, .mc csL (rep l.L i k M), .rw (.slice (some A) (l.ft.length - 1) (fk - 1)) (l.ft.drop 1).length 2 (fcl (l.ft.drop 1)), .rw (.slice (some ⟨fb, fo, none⟩) l.ft.length fk) l.ft.length 2 (fcl l.ft), .ce xcb xco (.int .i64 (c : Int)), .ce xcb (xco + 1) (.int .i64 d), .bs (.slice ma M.body.length mk) M.body, .rw (.slice (some ⟨xcb, xco, none⟩) l.ft.length xm) l.ft.length 2 (fcl l.ft), .rw (.slice xb l.ats.length xk) l.ats.length 1 (icl l.ats), .ms (.slice xa l.L.length xj) l.L] w10) := Lib.hid (yE.out.cast (by simp))
      clear E14 yE
      (try dsimp only)
      clear hHeld
      refine hKK.out _ _ (⟨((E15.out.bx 1 rfl).cell 1 rfl), ((E15.out.bx 4 rfl).cell 0 rfl), ((E15.out.bx 4 rfl).cell 1 rfl), ((E15.out.bx 4 rfl).cell 2 rfl), ((E15.out.bx 4 rfl).cell 3 rfl), ((E15.out.bx 4 rfl).cell 4 rfl)⟩) (fun hHeld => ?_)
      clear hKK KK
      try simp only [Act.put, List.setIfInBounds_toArray, List.set_cons_zero, List.set_cons_succ]
      refine uTake (i := 7) (some 70) (v := ?_) rfl rfl (by kernel_rfl) (by kernel_rfl) (by kernel_rfl) (by kernel_rfl) (fun _ _ _ h => h) (by rfl) (by assumption) ?_ ?_
      rotate_left
      · (intro wS hSw; (try dsimp only at hSw); go_simp; try with_reducible rfl)
      try simp only [Act.put, List.setIfInBounds_toArray, List.set_cons_zero, List.set_cons_succ]
      have b16 := E15.out.bx 1 rfl
      have c16_1 := b16.cell 1 rfl
      have f16_1 := b16.frozen 1
      clear b16
      refine uReady (rs := [8]) (by kernel_rfl) (by simp) ?_
      refine ReadyU.consU (by kernel_rfl) rfl (fun KK hKK => ?_) ReadyU.nil
      go_simp
      have E16 : Hid (Env D w ((w8.heap.size, 24, [.int .i64 M.fr, .int .i64 M.to_, .int .i64 M.kd, .int .i64 M.nm, .slice nba M.body.length nbk]) :: (w4.heap.size, 64, [.int .i64 l.nw, .slice (some ⟨yg, 0, none⟩) (l.L.length + k + 1) yp, .slice aa (l.ats.length + k) ak, .slice (some A) (l.ft.length - 1) (fk - 1)]) :: (w2.heap.size, 72, [.int .i64 (c : Int), .int .i64 d]) :: (w.heap.size + 1 + 1, 64, [.int .i64 0, .slice none 0 0, .slice none 0 0, .slice none 0 0]) :: (w.heap.size + 1, 24, [.int .i64 M.fr, .int .i64 M.to_, .int .i64 M.kd, .int .i64 M.nm, .slice ma M.body.length mk]) :: (w.heap.size, 64, [.int .i64 l.nw, .slice xa l.L.length xj, .slice xb l.ats.length xk, .slice (some ⟨xcb, xco, none⟩) l.ft.length xm]) :: (sgA ++ [(yg, 24, yc)])) [.mc yc (insL (rep l.L i k M) i M), .bs (.slice nba M.body.length nbk) M.body, .mc csL (rep l.L i k M), .rw (.slice (some A) (l.ft.length - 1) (fk - 1)) (l.ft.drop 1).length 2 (fcl (l.ft.drop 1)), .rw (.slice (some ⟨fb, fo, none⟩) l.ft.length fk) l.ft.length 2 (fcl l.ft), .ce xcb xco (.int .i64 (c : Int)), .ce xcb (xco + 1) (.int .i64 d), .bs (.slice ma M.body.length mk) M.body, .rw (.slice (some ⟨xcb, xco, none⟩) l.ft.length xm) l.ft.length 2 (fcl l.ft), .rw (.slice xb l.ats.length xk) l.ats.length 1 (icl l.ats), .ms (.slice xa l.L.length xj) l.L] _) := Lib.hid ((E15.out.set 1 1 (.slice (some ⟨yg, 0, none⟩) (l.L.length + k + 1) yp) rfl))
      (try dsimp only)
      (try clear hHeld)
      refine hKK.out _ _ ?_
      clear hKK KK
      try simp only [Act.put, List.setIfInBounds_toArray, List.set_cons_zero, List.set_cons_succ]
      refine uDone (by kernel_rfl) ?_ _
      have b17 := E16.out.bx 1 rfl
      have c17_2 := b17.cell 2 rfl
      clear b17
      have E17 := Lib.hid ((E16.out.push 3 [.int .i64 (l.nw + d)] (w10.heap.size) (by simp)))
      go_wp2_with fail
      refine (insertI_env (x := l.nw + d) (i := i) (j := 0) E17.out (A := [(w10.heap.size, 3, [.int .i64 (l.nw + d)]), (w8.heap.size, 24, [.int .i64 M.fr, .int .i64 M.to_, .int .i64 M.kd, .int .i64 M.nm, .slice nba M.body.length nbk]), (w4.heap.size, 64, [.int .i64 l.nw, .slice (some ⟨yg, 0, none⟩) (l.L.length + k + 1) yp, .slice aa (l.ats.length + k) ak, .slice (some A) (l.ft.length - 1) (fk - 1)]), (w2.heap.size, 72, [.int .i64 (c : Int), .int .i64 d]), (w.heap.size + 1 + 1, 64, [.int .i64 0, .slice none 0 0, .slice none 0 0, .slice none 0 0]), (w.heap.size + 1, 24, [.int .i64 M.fr, .int .i64 M.to_, .int .i64 M.kd, .int .i64 M.nm, .slice ma M.body.length mk]), (w.heap.size, 64, [.int .i64 l.nw, .slice xa l.L.length xj, .slice xb l.ats.length xk, .slice (some ⟨xcb, xco, none⟩) l.ft.length xm])]) (sg := sgA) (B' := [(yg, 24, yc)]) (F := ((w10.heap.size, 3, [.int .i64 (l.nw + d)]) :: (w8.heap.size, 24, [.int .i64 M.fr, .int .i64 M.to_, .int .i64 M.kd, .int .i64 M.nm, .slice nba M.body.length nbk]) :: (w4.heap.size, 64, [.int .i64 l.nw, .slice (some ⟨yg, 0, none⟩) (l.L.length + k + 1) yp, .slice aa (l.ats.length + k) ak, .slice (some A) (l.ft.length - 1) (fk - 1)]) :: (w2.heap.size, 72, [.int .i64 (c : Int), .int .i64 d]) :: (w.heap.size + 1 + 1, 64, [.int .i64 0, .slice none 0 0, .slice none 0 0, .slice none 0 0]) :: (w.heap.size + 1, 24, [.int .i64 M.fr, .int .i64 M.to_, .int .i64 M.kd, .int .i64 M.nm, .slice ma M.body.length mk]) :: (w.heap.size, 64, [.int .i64 l.nw, .slice xa l.L.length xj, .slice xb l.ats.length xk, .slice (some ⟨xcb, xco, none⟩) l.ft.length xm]) :: (sgA ++ [(yg, 24, yc)]))) (by simp) hOI.out rfl HNA.out (by omega) (by omega)).mono ?_
      rintro e w11 ⟨zg, zp, zc, rfl, zO, zE⟩
      have E18 : Hid (Env D w ((w10.heap.size, 3, [.int .i64 (l.nw + d)]) :: (w8.heap.size, 24, [.int .i64 M.fr, .int .i64 M.to_, .int .i64 M.kd, .int .i64 M.nm, .slice nba M.body.length nbk]) :: (w4.heap.size, 64, [.int .i64 l.nw, .slice (some ⟨yg, 0, none⟩) (l.L.length + k + 1) yp, .slice aa (l.ats.length + k) ak, .slice (some A) (l.ft.length - 1) (fk - 1)]) :: (w2.heap.size, 72, [.int .i64 (c : Int), .int .i64 d]) :: (w.heap.size + 1 + 1, 64, [.int .i64 0, .slice none 0 0, .slice none 0 0, .slice none 0 0]) :: (w.heap.size + 1, 24, [.int .i64 M.fr, .int .i64 M.to_, .int .i64 M.kd, .int .i64 M.nm, .slice ma M.body.length mk]) :: (w.heap.size, 64, [.int .i64 l.nw, .slice xa l.L.length xj, .slice xb l.ats.length xk, .slice (some ⟨xcb, xco, none⟩) l.ft.length xm]) :: ((zg, 3, zc) :: [(yg, 24, yc)])) [.mc yc (insL (rep l.L i k M) i M), .bs (.slice nba M.body.length nbk) M.body, .mc csL (rep l.L i k M), .rw (.slice (some A) (l.ft.length - 1) (fk - 1)) (l.ft.drop 1).length 2 (fcl (l.ft.drop 1)), .rw (.slice (some ⟨fb, fo, none⟩) l.ft.length fk) l.ft.length 2 (fcl l.ft), .ce xcb xco (.int .i64 (c : Int)), .ce xcb (xco + 1) (.int .i64 d), .bs (.slice ma M.body.length mk) M.body, .rw (.slice (some ⟨xcb, xco, none⟩) l.ft.length xm) l.ft.length 2 (fcl l.ft), .rw (.slice xb l.ats.length xk) l.ats.length 1 (icl l.ats), .ms (.slice xa l.L.length xj) l.L] w11) := Lib.hid (zE.out.cast (by simp))
      clear c16_1 f16_1 c17_2 E15 E16 E17 zE
      have b18 := E18.out.bx 2 rfl
      have c18_2 := b18.cell 2 rfl
      have f18_2 := b18.frozen 2
      clear b18
      have E19 : Hid (Env D w ((w10.heap.size, 3, [.int .i64 (l.nw + d)]) :: (w8.heap.size, 24, [.int .i64 M.fr, .int .i64 M.to_, .int .i64 M.kd, .int .i64 M.nm, .slice nba M.body.length nbk]) :: (w4.heap.size, 64, [.int .i64 l.nw, .slice (some ⟨yg, 0, none⟩) (l.L.length + k + 1) yp, .slice (some ⟨zg, 0, none⟩) (l.ats.length + k + 1) zp, .slice (some A) (l.ft.length - 1) (fk - 1)]) :: (w2.heap.size, 72, [.int .i64 (c : Int), .int .i64 d]) :: (w.heap.size + 1 + 1, 64, [.int .i64 0, .slice none 0 0, .slice none 0 0, .slice none 0 0]) :: (w.heap.size + 1, 24, [.int .i64 M.fr, .int .i64 M.to_, .int .i64 M.kd, .int .i64 M.nm, .slice ma M.body.length mk]) :: (w.heap.size, 64, [.int .i64 l.nw, .slice xa l.L.length xj, .slice xb l.ats.length xk, .slice (some ⟨xcb, xco, none⟩) l.ft.length xm]) :: ((zg, 3, zc) :: [(yg, 24, yc)])) [.mc yc (insL (rep l.L i k M) i M), .bs (.slice nba M.body.length nbk) M.body, .mc csL (rep l.L i k M), .rw (.slice (some A) (l.ft.length - 1) (fk - 1)) (l.ft.drop 1).length 2 (fcl (l.ft.drop 1)), .rw (.slice (some ⟨fb, fo, none⟩) l.ft.length fk) l.ft.length 2 (fcl l.ft), .ce xcb xco (.int .i64 (c : Int)), .ce xcb (xco + 1) (.int .i64 d), .bs (.slice ma M.body.length mk) M.body, .rw (.slice (some ⟨xcb, xco, none⟩) l.ft.length xm) l.ft.length 2 (fcl l.ft), .rw (.slice xb l.ats.length xk) l.ats.length 1 (icl l.ats), .ms (.slice xa l.L.length xj) l.L] _) := Lib.hid ((E18.out.set 2 2 (.slice (some ⟨zg, 0, none⟩) (l.ats.length + k + 1) zp) rfl))
      rw [rep_insL hil] at yO
      rw [rep_insI hia] at zO
      have hZ := ((E19.out.drop).drop)
      have EZ : Hid (Env D w ((w4.heap.size, 64, [.int .i64 l.nw, .slice (some ⟨yg, 0, none⟩) (l.L.length + k + 1) yp, .slice (some ⟨zg, 0, none⟩) (l.ats.length + k + 1) zp, .slice (some A) (l.ft.length - 1) (fk - 1)]) :: (w2.heap.size, 72, [.int .i64 (c : Int), .int .i64 d]) :: (w.heap.size + 1 + 1, 64, [.int .i64 0, .slice none 0 0, .slice none 0 0, .slice none 0 0]) :: (w.heap.size + 1, 24, [.int .i64 M.fr, .int .i64 M.to_, .int .i64 M.kd, .int .i64 M.nm, .slice ma M.body.length mk]) :: (w.heap.size, 64, [.int .i64 l.nw, .slice xa l.L.length xj, .slice xb l.ats.length xk, .slice (some ⟨xcb, xco, none⟩) l.ft.length xm]) :: ((zg, 3, zc) :: [(yg, 24, yc)])) [.mc yc (rep l.L i (k + 1) M), .rw (.slice (some A) (l.ft.length - 1) (fk - 1)) (l.ft.drop 1).length 2 (fcl (l.ft.drop 1)), .rw (.slice (some ⟨fb, fo, none⟩) l.ft.length fk) l.ft.length 2 (fcl l.ft), .ce xcb xco (.int .i64 (c : Int)), .ce xcb (xco + 1) (.int .i64 d), .bs (.slice ma M.body.length mk) M.body, .rw (.slice (some ⟨xcb, xco, none⟩) l.ft.length xm) l.ft.length 2 (fcl l.ft), .rw (.slice xb l.ats.length xk) l.ats.length 1 (icl l.ats), .ms (.slice xa l.L.length xj) l.L] _) := Lib.hid ⟨hZ.bel, hZ.box, ⟨by have h9 := hZ.fc 0 rfl; rw [rep_insL hil] at h9; exact h9, ⟨hZ.fc 3 rfl, ⟨hZ.fc 4 rfl, ⟨hZ.fc 5 rfl, ⟨hZ.fc 6 rfl, ⟨hZ.fc 7 rfl, ⟨hZ.fc 8 rfl, ⟨hZ.fc 9 rfl, ⟨hZ.fc 10 rfl, trivial⟩⟩⟩⟩⟩⟩⟩⟩⟩⟩
      clear hZ
      go_wp2
      go_roundg (c - (k + 1))
      case rel => exact ⟨k + 1, _, _, _, _, _, _, _, _, rfl, EZ, zO, yO, Lib.hid ⟨by omega, rfl⟩⟩
      case measure => exact by omega
    have t4 : decide ((k : Int) < (c : Int)) = false := decide_eq_false (by omega)
    have t5 : decide (k < c) = false := decide_eq_false (by omega)
    have HY := Lib.hid hy
    clear hy
    have b16 := EL.out.bx 0 rfl
    have c16_0 := b16.cell 0 rfl
    have c16_1 := b16.cell 1 rfl
    have c16_2 := b16.cell 2 rfl
    have c16_3 := b16.cell 3 rfl
    clear b16
    have b17 := EL.out.bx 2 rfl
    have c17_0 := b17.cell 0 rfl
    have c17_1 := b17.cell 1 rfl
    have c17_2 := b17.cell 2 rfl
    have c17_3 := b17.cell 3 rfl
    have f17_0 := b17.frozen 0
    have f17_1 := b17.frozen 1
    have f17_2 := b17.frozen 2
    have f17_3 := b17.frozen 3
    clear b17
    go_wp2
    have E12 : Hid (Env D w ((w4.heap.size, 64, [.int .i64 l.nw, .slice la (l.L.length + k) lj, .slice aa (l.ats.length + k) ak, .slice (some A) (l.ft.length - 1) (fk - 1)]) :: (w2.heap.size, 72, [.int .i64 (c : Int), .int .i64 d]) :: (w.heap.size + 1 + 1, 64, [.int .i64 l.nw, .slice la (l.L.length + k) lj, .slice aa (l.ats.length + k) ak, .slice (some A) (l.ft.length - 1) (fk - 1)]) :: (w.heap.size + 1, 24, [.int .i64 M.fr, .int .i64 M.to_, .int .i64 M.kd, .int .i64 M.nm, .slice ma M.body.length mk]) :: (w.heap.size, 64, [.int .i64 l.nw, .slice xa l.L.length xj, .slice xb l.ats.length xk, .slice (some ⟨xcb, xco, none⟩) l.ft.length xm]) :: (sgA ++ sgL)) [.mc csL (rep l.L i k M), .rw (.slice (some A) (l.ft.length - 1) (fk - 1)) (l.ft.drop 1).length 2 (fcl (l.ft.drop 1)), .rw (.slice (some ⟨fb, fo, none⟩) l.ft.length fk) l.ft.length 2 (fcl l.ft), .ce xcb xco (.int .i64 (c : Int)), .ce xcb (xco + 1) (.int .i64 d), .bs (.slice ma M.body.length mk) M.body, .rw (.slice (some ⟨xcb, xco, none⟩) l.ft.length xm) l.ft.length 2 (fcl l.ft), .rw (.slice xb l.ats.length xk) l.ats.length 1 (icl l.ats), .ms (.slice xa l.L.length xj) l.L] _) := Lib.hid (((((EL.out.set 2 0 (.int .i64 l.nw) rfl).set 2 1 (.slice la (l.L.length + k) lj) rfl).set 2 2 (.slice aa (l.ats.length + k) ak) rfl).set 2 3 (.slice (some A) (l.ft.length - 1) (fk - 1)) rfl))
    have hfin := E12.out
    have q0 := (hfin.bx 2 rfl).cell 0 rfl
    have q1 := (hfin.bx 2 rfl).cell 1 rfl
    have q2 := (hfin.bx 2 rfl).cell 2 rfl
    have q3 := (hfin.bx 2 rfl).cell 3 rfl
    have hy := HY.out
    subst hy
    refine bodyPost_ret (v := .tuple #[.agg #[.int .i64 l.nw, .slice la (l.L.length + k) lj, .slice aa (l.ats.length + k) ak, .slice (some A) (l.ft.length - 1) (fk - 1)], .int .i64 0]) (by simp [results, Try.results34, go_sem, q0, q1, q2, q3]) rfl ?_
    exact ⟨⟨_, rfl, RetL.mk rfl (rep_len hil k M) (rep_len hia k (l.nw + d)) (by simp [sendL]) (hLS.out.ms hfin (by intro p hp; simp [hp]) (hfin.fc 0 rfl)) (hOI.out.rw hfin (by intro p hp; simp [hp])) (hfin.out 1 rfl)⟩, hfin.bel⟩
theorem Send_ok {l : Lin} {M : Msg} {c i : Nat} {d : Int} {D : Nat → Prop} {xa xb xc : Option Addr} {xj xk xm : Nat} {ma : Option Addr} {mk : Nat} {w : World} (hx1 : Fct.at w D (.ms (.slice xa l.L.length xj) l.L)) (hx2 : Fct.at w D (.rw (.slice xb l.ats.length xk) l.ats.length 1 (icl l.ats))) (hx3 : Fct.at w D (.rw (.slice xc l.ft.length xm) l.ft.length 2 (fcl l.ft))) (hm : Fct.at w D (.bs (.slice ma M.body.length mk) M.body)) (hv : LinOk l) (hmm : msgOk M = true) (hf : fate0 l = ((c : Int), d)) (hi : PlaceIs l.ats (l.nw + d) i) (hbig : (l.L.length ≤ 100000 ∧ l.ats.length ≤ 100000 ∧ l.ft.length ≤ 100000) ∧ ∀ k (h : k < l.L.length), l.L[k].body.length ≤ 1000000) (hmb : M.body.length ≤ 1000000) (hn : ¬ 1000 < l.L.length + c) :
    Calls Try.prog 34 #[.agg #[.int .i64 l.nw, .slice xa l.L.length xj, .slice xb l.ats.length xk, .slice xc l.ft.length xm], .agg #[.int .i64 M.fr, .int .i64 M.to_, .int .i64 M.kd, .int .i64 M.nm, .slice ma M.body.length mk]] w fun e w' => RetLE (fun b => D b ∨ w.heap.size ≤ b) (sendL l M i c d) 0 e w' ∧ Below w.heap.size w w' := by
  by_cases h0 : l.ft.length = 0
  · exact Send_ok_n l M c d i hx1 hx2 hx3 hm hv hmm hf hi hbig hmb hn h0
  · exact Send_ok_c l M c d i hx1 hx2 hx3 hm hv hmm hf hi hbig hmb hn (by omega)
theorem Send_full {l : Lin} {M : Msg} {c : Nat} {d : Int} {D : Nat → Prop} {xa xb xc : Option Addr} {xj xk xm : Nat} {ma : Option Addr} {mk : Nat} {w : World} (hx1 : Fct.at w D (.ms (.slice xa l.L.length xj) l.L)) (hx2 : Fct.at w D (.rw (.slice xb l.ats.length xk) l.ats.length 1 (icl l.ats))) (hx3 : Fct.at w D (.rw (.slice xc l.ft.length xm) l.ft.length 2 (fcl l.ft))) (hm : Fct.at w D (.bs (.slice ma M.body.length mk) M.body)) (hv : LinOk l) (hmm : msgOk M = true) (hf : fate0 l = ((c : Int), d)) (hn : 1000 < l.L.length + c) :
    Calls Try.prog 34 #[.agg #[.int .i64 l.nw, .slice xa l.L.length xj, .slice xb l.ats.length xk, .slice xc l.ft.length xm], .agg #[.int .i64 M.fr, .int .i64 M.to_, .int .i64 M.kd, .int .i64 M.nm, .slice ma M.body.length mk]] w fun e w' => RetLE (fun b => D b ∨ w.heap.size ≤ b) L0 5 e w' ∧ Below w.heap.size w w' := by
  by_cases h0 : l.ft.length = 0
  · exact Send_full_n l M c d hx1 hx2 hx3 hm hv hmm hf hn h0
  · exact Send_full_c l M c d hx1 hx2 hx3 hm hv hmm hf hn (by omega)
end Go.Proofs.Ytbcfcdcomboljaa

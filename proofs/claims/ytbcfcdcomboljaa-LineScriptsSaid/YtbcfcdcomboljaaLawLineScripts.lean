/- specielaw39: LineScripts. -/
import Derived.Test.YtbcfcdcomboljaaLinLb
import Derived.Test.YtbcfcdcomboljaaLinPm
import Derived.Deep.DeepCutAuto
import Derived.Deep.CutBlock
namespace Go.Proofs.Ytbcfcdcomboljaa
open Go.RowKit
set_option linter.unusedVariables false
set_option linter.unusedSimpArgs false
def drS (ft : List (Int × Int)) (k : Nat) : List (Int × Int) := ft.drop k
def RetLS (D : Nat → Prop) (l : Lin) (now c : Int) (e : Ending) (W : World) : Prop := ∃ la lj aa ak fa fk, e = .returned (.tuple #[.agg #[.int .i64 now, .slice la l.L.length lj, .slice aa l.ats.length ak, .slice fa l.ft.length fk], .int .i64 c]) ∧
  Hid (Ms W D (.slice la l.L.length lj) l.L) ∧ Hid (Rw W D (.slice aa l.ats.length ak) l.ats.length 1 (icl l.ats)) ∧ Hid (Rw W D (.slice fa l.ft.length fk) l.ft.length 2 (fcl l.ft))
theorem retLS {D : Nat → Prop} {l : Lin} {now c : Int} {e : Ending} {W : World} (h : RetLE D l c e W) (hn : l.nw = now) : RetLS D l now c e W := by
  subst hn
  obtain ⟨v, rfl, la, lj, aa, ak, fa, fk, rfl, a, b, d⟩ := h
  exact ⟨la, lj, aa, ak, fa, fk, rfl, a, b, d⟩
def RetLSM (D : Nat → Prop) (l : Lin) (now t : Int) (j b : Nat) (c : Int) (e : Ending) (W : World) : Prop := ∃ la lj aa ak fa fk ao k, e = .returned (.tuple #[.agg #[.int .i64 now, .slice la l.L.length lj, .slice aa l.ats.length ak, .slice fa l.ft.length fk], .agg #[.int .i64 0, .int .i64 t, .int .i64 0, .int .i64 (j : Nat), .slice ao 1 k], .int .i64 c]) ∧
  Hid (Ms W D (.slice la l.L.length lj) l.L) ∧ Hid (Rw W D (.slice aa l.ats.length ak) l.ats.length 1 (icl l.ats)) ∧ Hid (Rw W D (.slice fa l.ft.length fk) l.ft.length 2 (fcl l.ft)) ∧ Hid (Bs W D (.slice ao 1 k) [b])
theorem ScI.len {ft : List (Int × Int)} {i : Nat} {now : Int} {P : Snt} {lf : List Int} {js : List Nat} {ls : Lst} (h : ScI ft i now P lf js ls) : (SLn P now js (ft.drop P.length)).ats.length ≤ 1000000 := by
  have h1 := h.1.1.2.1; have h2 := h.1.1.2.2.1; omega
def SndS (ft : List (Int × Int)) (P : Snt) (now : Int) (js : List Nat) (t b c : Nat) (d : Int) (js' : List Nat) : Prop := ∃ p, fate0 (SLn P now js (ft.drop P.length)) = (((c : Nat) : Int), d) ∧ PlaceIs (SLn P now js (ft.drop P.length)).ats ((SLn P now js (ft.drop P.length)).nw + d) p ∧ ¬ 1000 < (SLn P now js (ft.drop P.length)).L.length + c ∧
  msgOk (msgS (t : Int) P.length b) = true ∧ sendL (SLn P now js (ft.drop P.length)) (msgS (t : Int) P.length b) p c d = SLn (P ++ [((t : Int), now + d, b)]) now js' (ft.drop (P ++ [((t : Int), now + d, b)]).length)
theorem ScI.send2 {ft : List (Int × Int)} {i : Nat} {now : Int} {P : Snt} {lf : List Int} {js : List Nat} {ls : Lst} (h : ScI ft i now P lf js ls) (hi : i < 100) (hl : ft.length ≤ 100) (hf : FatsOk ft) (t : Nat) (ht : t < 3) (b : Nat) :
    ∃ c d js' P9, SndS ft P now js t b c d js' ∧ (0 ≤ d ∧ d ≤ 1000000) ∧ fate0 (SLn P now js (ft.drop P.length)) = (((c : Nat) : Int), d) ∧ P9 = P ++ [((t : Int), now + d, b)] ∧ ScI ft (i + 1) now P9 (lf ++ [(c : Int)]) js' ls := by
  obtain ⟨c, d, p, js', a1, a2, a3, a4, a5, a6, a7, a8⟩ := h.send hi hl hf t ht b
  exact ⟨c, d, js', _, ⟨p, a1, a4, a5, a6, a7⟩, a2, a1, rfl, a8⟩
theorem fate_yes {ft : List (Int × Int)} {P : Snt} {now : Int} {js : List Nat} (h : P.length < ft.length) : fate0 (SLn P now js (ft.drop P.length)) = ft[P.length] := by
  unfold fate0 SLn
  simp only
  rw [List.drop_eq_getElem_cons h, List.headD_cons]
theorem fate_no {ft : List (Int × Int)} {P : Snt} {now : Int} {js : List Nat} (h : ¬ P.length < ft.length) : fate0 (SLn P now js (ft.drop P.length)) = (1, 0) := by
  unfold fate0 SLn
  simp only
  rw [List.drop_eq_nil_of_le (by omega)]; rfl
theorem New_sc {ft : List (Int × Int)} {D : Nat → Prop} {fa : Option Addr} {fk : Nat} {w : World} (hx : Fct.at w D (.rw (.slice fa ft.length fk) ft.length 2 (fcl ft))) (hl : ft.length ≤ 100) (hF : FatsOk ft) : Calls Try.prog 33 #[.slice fa ft.length fk] w fun e w' => RetLS (fun b => D b ∨ w.heap.size ≤ b) (SLn [] 0 [] (drS ft ([] : Snt).length)) 0 0 e w' ∧ Below w.heap.size w w' :=
  (New_ok ft hx (by omega) hF).mono (fun e w' h => ⟨retLS (l := SLn [] 0 [] (drS ft ([] : Snt).length)) h.1 rfl, h.2⟩)
theorem wcnt_zero {l : Lin} {pt : Int} (h : ∀ g, arrB l pt g = false) : ∀ k, wcnt l pt k = 0
  | 0 => rfl
  | k + 1 => by simp [wcnt, wcnt_zero h k, h k]
theorem wcnt_pos {l : Lin} {pt : Int} {f : Nat} (h : arrB l pt f = true) : ∀ k, f < k → 1 ≤ wcnt l pt k
  | 0, hk => absurd hk (Nat.not_lt_zero _)
  | k + 1, hk => by
    unfold wcnt
    by_cases e : f = k
    · subst e; rw [if_pos h]; omega
    · have := wcnt_pos h k (by omega); omega
theorem Send_sc {ft : List (Int × Int)} {i : Nat} {now : Int} {P : Snt} {lf : List Int} {js : List Nat} {ls : Lst} (h : ScI ft i now P lf js ls) {t b c : Nat} {d : Int} {js2 : List Nat} (hq : SndS ft P now js t b c d js2) {P9 : Snt} (hP : P9 = P ++ [((t : Int), now + d, b)]) {xa xb xc : Option Addr} {xj xk xm : Nat} {D : Nat → Prop} {w : World} (h1 : Fct.at w D (.ms (.slice xa (SLn P now js (drS ft P.length)).L.length xj) (SLn P now js (drS ft P.length)).L)) (h2 : Fct.at w D (.rw (.slice xb (SLn P now js (drS ft P.length)).ats.length xk) (SLn P now js (drS ft P.length)).ats.length 1 (icl (SLn P now js (drS ft P.length)).ats))) (h3 : Fct.at w D (.rw (.slice xc (SLn P now js (drS ft P.length)).ft.length xm) (SLn P now js (drS ft P.length)).ft.length 2 (fcl (SLn P now js (drS ft P.length)).ft))) {ma : Option Addr} {mk : Nat} (hm : Fct.at w D (.bs (.slice ma 1 mk) [b])) :
    Calls Try.prog 34 #[.agg #[.int .i64 now, .slice xa (SLn P now js (drS ft P.length)).L.length xj, .slice xb (SLn P now js (drS ft P.length)).ats.length xk, .slice xc (SLn P now js (drS ft P.length)).ft.length xm], .agg #[.int .i64 0, .int .i64 (t : Nat), .int .i64 0, .int .i64 (P.length : Nat), .slice ma 1 mk]] w fun e w' => RetLS (fun b => D b ∨ w.heap.size ≤ b) (SLn P9 now js2 (drS ft P9.length)) now 0 e w' ∧ Below w.heap.size w w' := by
  subst hP
  obtain ⟨p, a1, a2, a3, a4, a5⟩ := hq
  have := Send_ok (M := msgS (t : Int) P.length b) h1 h2 h3 hm h.1 a4 a1 a2 (ok_big h.1) (by unfold msgS; simp) a3
  rw [show sendL (SLn P now js (drS ft P.length)) (msgS (t : Int) P.length b) p c d = _ from a5] at this
  exact this.mono (fun e w' h => ⟨retLS h.1 rfl, h.2⟩)
theorem Valid_sc {ft : List (Int × Int)} {i : Nat} {now : Int} {P : Snt} {lf : List Int} {js : List Nat} {ls : Lst} (h : ScI ft i now P lf js ls)  {xa xb xc : Option Addr} {xj xk xm : Nat} {D : Nat → Prop} {w : World} (h1 : Fct.at w D (.ms (.slice xa (SLn P now js (drS ft P.length)).L.length xj) (SLn P now js (drS ft P.length)).L)) (h2 : Fct.at w D (.rw (.slice xb (SLn P now js (drS ft P.length)).ats.length xk) (SLn P now js (drS ft P.length)).ats.length 1 (icl (SLn P now js (drS ft P.length)).ats))) (h3 : Fct.at w D (.rw (.slice xc (SLn P now js (drS ft P.length)).ft.length xm) (SLn P now js (drS ft P.length)).ft.length 2 (fcl (SLn P now js (drS ft P.length)).ft))) :
    Calls Try.prog 38 #[.agg #[.int .i64 now, .slice xa (SLn P now js (drS ft P.length)).L.length xj, .slice xb (SLn P now js (drS ft P.length)).ats.length xk, .slice xc (SLn P now js (drS ft P.length)).ft.length xm]] w fun e w' => e = .returned (.bool true) ∧ Below w.heap.size w w' := by
  exact lValid_c _ h1 h2 h3 (okOf h.1) h.len
theorem Waiting_sc {ft : List (Int × Int)} {i : Nat} {now : Int} {P : Snt} {lf : List Int} {js : List Nat} {ls : Lst} (h : ScI ft i now P lf js ls) {t : Nat} {n : Nat} (hn : wcnt (SLn P now js (drS ft P.length)) (t : Int) (SLn P now js (drS ft P.length)).L.length = n) {xa xb xc : Option Addr} {xj xk xm : Nat} {D : Nat → Prop} {w : World} (h1 : Fct.at w D (.ms (.slice xa (SLn P now js (drS ft P.length)).L.length xj) (SLn P now js (drS ft P.length)).L)) (h2 : Fct.at w D (.rw (.slice xb (SLn P now js (drS ft P.length)).ats.length xk) (SLn P now js (drS ft P.length)).ats.length 1 (icl (SLn P now js (drS ft P.length)).ats))) (h3 : Fct.at w D (.rw (.slice xc (SLn P now js (drS ft P.length)).ft.length xm) (SLn P now js (drS ft P.length)).ft.length 2 (fcl (SLn P now js (drS ft P.length)).ft))) :
    Calls Try.prog 35 #[.agg #[.int .i64 now, .slice xa (SLn P now js (drS ft P.length)).L.length xj, .slice xb (SLn P now js (drS ft P.length)).ats.length xk, .slice xc (SLn P now js (drS ft P.length)).ft.length xm], .int .i64 (t : Nat)] w fun e w' => e = .returned (.int .i64 (n : Nat)) ∧ Below w.heap.size w w' := by
  have := Waiting_ok (SLn P now js (drS ft P.length)) (t : Int) h1 h2 h3 h.1
  rw [show (SLn P now js (drS ft P.length)).nw = now from rfl, hn] at this
  exact this
theorem Receive_none_sc {ft : List (Int × Int)} {i : Nat} {now : Int} {P : Snt} {lf : List Int} {js : List Nat} {ls : Lst} (h : ScI ft i now P lf js ls) {t : Nat} (hr : FirstIs (SLn P now js (ft.drop P.length)) (t : Int) (-1)) {xa xb xc : Option Addr} {xj xk xm : Nat} {D : Nat → Prop} {w : World} (h1 : Fct.at w D (.ms (.slice xa (SLn P now js (drS ft P.length)).L.length xj) (SLn P now js (drS ft P.length)).L)) (h2 : Fct.at w D (.rw (.slice xb (SLn P now js (drS ft P.length)).ats.length xk) (SLn P now js (drS ft P.length)).ats.length 1 (icl (SLn P now js (drS ft P.length)).ats))) (h3 : Fct.at w D (.rw (.slice xc (SLn P now js (drS ft P.length)).ft.length xm) (SLn P now js (drS ft P.length)).ft.length 2 (fcl (SLn P now js (drS ft P.length)).ft))) :
    Calls Try.prog 36 #[.agg #[.int .i64 now, .slice xa (SLn P now js (drS ft P.length)).L.length xj, .slice xb (SLn P now js (drS ft P.length)).ats.length xk, .slice xc (SLn P now js (drS ft P.length)).ft.length xm], .int .i64 (t : Nat)] w fun e w' => RetLME (fun b => D b ∨ w.heap.size ≤ b) L0 M0 7 e w' ∧ Below w.heap.size w w' := by
  unfold drS at h1 h2 h3
  have h9 := Receive_none (SLn P now js (ft.drop P.length)) (t : Int) h1 h2 h3 h.1 hr h.len
  rw [show (SLn P now js (ft.drop P.length)).nw = now from rfl] at h9
  unfold drS
  exact h9
theorem Receive_sc {ft : List (Int × Int)} {i : Nat} {now : Int} {P : Snt} {lf : List Int} {js : List Nat} {ls : Lst} (h : ScI ft i now P lf js ls) {t j f : Nat} (hr : FirstIs (SLn P now js (ft.drop P.length)) (t : Int) (f : Int)) (hf : f < js.length) (hm : (SLn P now js (ft.drop P.length)).L[f]? = some (msgS (toS P j) j (byS P j))) (ht : toS P j = (t : Int)) (hq : recvL (SLn P now js (ft.drop P.length)) f = SLn P now (js.eraseIdx f) (ft.drop P.length)) {xa xb xc : Option Addr} {xj xk xm : Nat} {D : Nat → Prop} {w : World} (h1 : Fct.at w D (.ms (.slice xa (SLn P now js (drS ft P.length)).L.length xj) (SLn P now js (drS ft P.length)).L)) (h2 : Fct.at w D (.rw (.slice xb (SLn P now js (drS ft P.length)).ats.length xk) (SLn P now js (drS ft P.length)).ats.length 1 (icl (SLn P now js (drS ft P.length)).ats))) (h3 : Fct.at w D (.rw (.slice xc (SLn P now js (drS ft P.length)).ft.length xm) (SLn P now js (drS ft P.length)).ft.length 2 (fcl (SLn P now js (drS ft P.length)).ft))) :
    Calls Try.prog 36 #[.agg #[.int .i64 now, .slice xa (SLn P now js (drS ft P.length)).L.length xj, .slice xb (SLn P now js (drS ft P.length)).ats.length xk, .slice xc (SLn P now js (drS ft P.length)).ft.length xm], .int .i64 (t : Nat)] w fun e w' => RetLSM (fun b => D b ∨ w.heap.size ≤ b) (SLn P now (js.eraseIdx f) (drS ft P.length)) now (t : Nat) j (byS P j) 0 e w' ∧ Below w.heap.size w w' := by
  unfold drS at h1 h2 h3 ⊢
  have hf' : f < (SLn P now js (ft.drop P.length)).L.length := by simpa [SLn] using hf
  have hMi : (SLn P now js (ft.drop P.length)).L[f] = msgS (toS P j) j (byS P j) := by
    have := List.getElem?_eq_getElem hf'
    rw [this] at hm
    exact Option.some.inj hm
  have h9 := Receive_ok (SLn P now js (ft.drop P.length)) (t : Int) f (msgS (toS P j) j (byS P j)) h1 h2 h3 h.1 hr (ok_big h.1) h.len hf' hMi
  rw [hq] at h9
  rw [show (SLn P now js (ft.drop P.length)).nw = now from rfl] at h9
  refine h9.mono (fun e w' h => ⟨?_, h.2⟩)
  obtain ⟨v, ao, k, rfl, hv, hb⟩ := h.1
  obtain ⟨la, lj, aa, ak, fa, fk, rfl, a, b, d⟩ := hv
  have he : Ending.returned (.tuple #[.agg #[.int .i64 now, .slice la (SLn P now (js.eraseIdx f) (ft.drop P.length)).L.length lj, .slice aa (SLn P now (js.eraseIdx f) (ft.drop P.length)).ats.length ak, .slice fa (SLn P now (js.eraseIdx f) (ft.drop P.length)).ft.length fk], .agg #[.int .i64 0, .int .i64 (toS P j), .int .i64 0, .int .i64 (j : Nat), .slice ao 1 k], .int .i64 0]) = Ending.returned (.tuple #[.agg #[.int .i64 now, .slice la (SLn P now (js.eraseIdx f) (ft.drop P.length)).L.length lj, .slice aa (SLn P now (js.eraseIdx f) (ft.drop P.length)).ats.length ak, .slice fa (SLn P now (js.eraseIdx f) (ft.drop P.length)).ft.length fk], .agg #[.int .i64 0, .int .i64 (t : Int), .int .i64 0, .int .i64 (j : Nat), .slice ao 1 k], .int .i64 0]) := by rw [ht]
  exact ⟨la, lj, aa, ak, fa, fk, ao, k, he, a, b, d, hb⟩
theorem Go_sc {ft : List (Int × Int)} {i : Nat} {now : Int} {P : Snt} {lf : List Int} {js : List Nat} {ls : Lst} (h : ScI ft i now P lf js ls) {b : Nat} (hw : wth (now + (b : Int)) 1099511627776 = true) (ht : ¬ now + (b : Int) < now) {xa xb xc : Option Addr} {xj xk xm : Nat} {D : Nat → Prop} {w : World} (h1 : Fct.at w D (.ms (.slice xa (SLn P now js (drS ft P.length)).L.length xj) (SLn P now js (drS ft P.length)).L)) (h2 : Fct.at w D (.rw (.slice xb (SLn P now js (drS ft P.length)).ats.length xk) (SLn P now js (drS ft P.length)).ats.length 1 (icl (SLn P now js (drS ft P.length)).ats))) (h3 : Fct.at w D (.rw (.slice xc (SLn P now js (drS ft P.length)).ft.length xm) (SLn P now js (drS ft P.length)).ft.length 2 (fcl (SLn P now js (drS ft P.length)).ft))) :
    Calls Try.prog 37 #[.agg #[.int .i64 now, .slice xa (SLn P now js (drS ft P.length)).L.length xj, .slice xb (SLn P now js (drS ft P.length)).ats.length xk, .slice xc (SLn P now js (drS ft P.length)).ft.length xm], .int .i64 (now + (b : Nat))] w fun e w' => RetLS (fun b => D b ∨ w.heap.size ≤ b) (SLn P (now + (b : Nat)) js (drS ft P.length)) (now + (b : Nat)) 0 e w' ∧ Below w.heap.size w w' := by
  exact (Go_ok _ (now + (b : Int)) h1 h2 h3 h.1 hw ht (ok_big h.1) h.len).mono (fun e w' h => ⟨retLS h.1 rfl, h.2⟩)
set_option maxRecDepth 100000 in
set_option maxHeartbeats 1000000 in
theorem sc_la {D : Nat → Prop} (ft : List (Int × Int)) (acts : Acts) {fa ta : Option Addr} {fk tk : Nat} {w : World} (hx : Fct.at w D (.rw (.slice fa ft.length fk) ft.length 2 (fcl ft))) (hy : Fct.at w D (.rw (.slice ta acts.length tk) acts.length 3 (acl acts))) (hl : 100 < acts.length) :
    Calls Try.prog 7 #[.slice fa ft.length fk, .slice ta acts.length tk] w fun e w' => e = .returned (.bool true) ∧ Below w.heap.size w w' := by
  have E0 : Hid (Env D w [] [.rw (.slice ta acts.length tk) acts.length 3 (acl acts), .rw (.slice fa ft.length fk) ft.length 2 (fcl ft)] w) := Lib.hid (((Env.start D w).arg (.rw (.slice fa ft.length fk) ft.length 2 (fcl ft)) hx).arg (.rw (.slice ta acts.length tk) acts.length 3 (acl acts)) hy)
  clear hx hy
  go_enter Try.func7, Try.ntmps7
  have d1 : decide ((100 : Int) < (acts.length : Int)) = true := decide_eq_true (by omega)
  go_wp2_with fail
  refine (awake_c (D := (DF D w.heap.size []))).mono ?_
  rintro e w1 ⟨rfl, hb⟩
  have E1 : Hid (Env D w [] [.rw (.slice ta acts.length tk) acts.length 3 (acl acts), .rw (.slice fa ft.length fk) ft.length 2 (fcl ft)] w1) := Lib.hid (E0.out.below hb)
  clear E0 hb
  go_wp2_with fail
  refine (awake_c (D := (DF D w.heap.size []))).mono ?_
  rintro e w2 ⟨rfl, hb⟩
  have E2 : Hid (Env D w [] [.rw (.slice ta acts.length tk) acts.length 3 (acl acts), .rw (.slice fa ft.length fk) ft.length 2 (fcl ft)] w2) := Lib.hid (E1.out.below hb)
  clear E1 hb
  have hfin := Lib.hid E2.out.bel
  go_wp2
  go_ret
  exact ⟨rfl, hfin.out⟩
set_option maxRecDepth 100000 in
set_option maxHeartbeats 1000000 in
theorem sc_lf {D : Nat → Prop} (ft : List (Int × Int)) (acts : Acts) {fa ta : Option Addr} {fk tk : Nat} {w : World} (hx : Fct.at w D (.rw (.slice fa ft.length fk) ft.length 2 (fcl ft))) (hy : Fct.at w D (.rw (.slice ta acts.length tk) acts.length 3 (acl acts))) (hl : acts.length ≤ 100) (hl2 : 100 < ft.length) :
    Calls Try.prog 7 #[.slice fa ft.length fk, .slice ta acts.length tk] w fun e w' => e = .returned (.bool true) ∧ Below w.heap.size w w' := by
  have E0 : Hid (Env D w [] [.rw (.slice ta acts.length tk) acts.length 3 (acl acts), .rw (.slice fa ft.length fk) ft.length 2 (fcl ft)] w) := Lib.hid (((Env.start D w).arg (.rw (.slice fa ft.length fk) ft.length 2 (fcl ft)) hx).arg (.rw (.slice ta acts.length tk) acts.length 3 (acl acts)) hy)
  clear hx hy
  go_enter Try.func7, Try.ntmps7
  have d1 : decide ((100 : Int) < (acts.length : Int)) = false := decide_eq_false (by omega)
  have d2 : decide ((100 : Int) < (ft.length : Int)) = true := decide_eq_true (by omega)
  go_wp2_with fail
  refine (awake_c (D := (DF D w.heap.size []))).mono ?_
  rintro e w1 ⟨rfl, hb⟩
  have E1 : Hid (Env D w [] [.rw (.slice ta acts.length tk) acts.length 3 (acl acts), .rw (.slice fa ft.length fk) ft.length 2 (fcl ft)] w1) := Lib.hid (E0.out.below hb)
  clear E0 hb
  go_wp2_with fail
  refine (awake_c (D := (DF D w.heap.size []))).mono ?_
  rintro e w2 ⟨rfl, hb⟩
  have E2 : Hid (Env D w [] [.rw (.slice ta acts.length tk) acts.length 3 (acl acts), .rw (.slice fa ft.length fk) ft.length 2 (fcl ft)] w2) := Lib.hid (E1.out.below hb)
  clear E1 hb
  have hfin := Lib.hid E2.out.bel
  go_wp2
  go_ret
  exact ⟨rfl, hfin.out⟩
set_option maxRecDepth 100000 in
set_option maxHeartbeats 1000000 in
theorem sc_bad {D : Nat → Prop} (ft : List (Int × Int)) (acts : Acts) {fa ta : Option Addr} {fk tk : Nat} {w : World} (hx : Fct.at w D (.rw (.slice fa ft.length fk) ft.length 2 (fcl ft))) (hy : Fct.at w D (.rw (.slice ta acts.length tk) acts.length 3 (acl acts))) (hl : acts.length ≤ 100) (hl2 : ft.length ≤ 100) (HF0 : ¬ FatsOk ft) :
    Calls Try.prog 7 #[.slice fa ft.length fk, .slice ta acts.length tk] w fun e w' => e = .returned (.bool true) ∧ Below w.heap.size w w' := by
  have E0 : Hid (Env D w [] [.rw (.slice ta acts.length tk) acts.length 3 (acl acts), .rw (.slice fa ft.length fk) ft.length 2 (fcl ft)] w) := Lib.hid (((Env.start D w).arg (.rw (.slice fa ft.length fk) ft.length 2 (fcl ft)) hx).arg (.rw (.slice ta acts.length tk) acts.length 3 (acl acts)) hy)
  clear hx hy
  go_enter Try.func7, Try.ntmps7
  have HF := Lib.hid HF0
  clear HF0
  have d1 : decide ((100 : Int) < (acts.length : Int)) = false := decide_eq_false (by omega)
  have d2 : decide ((100 : Int) < (ft.length : Int)) = false := decide_eq_false (by omega)
  go_wp2_with fail
  refine (awake_c (D := (DF D w.heap.size []))).mono ?_
  rintro e w1 ⟨rfl, hb⟩
  have E1 : Hid (Env D w [] [.rw (.slice ta acts.length tk) acts.length 3 (acl acts), .rw (.slice fa ft.length fk) ft.length 2 (fcl ft)] w1) := Lib.hid (E0.out.below hb)
  clear E0 hb
  go_wp2_with fail
  refine (rFates_c ft (t := false) (E1.out.fc 1 rfl) (by simp [HF.out]) (by omega)).mono ?_
  rintro e w2 ⟨rfl, hb⟩
  have E2 : Hid (Env D w [] [.rw (.slice ta acts.length tk) acts.length 3 (acl acts), .rw (.slice fa ft.length fk) ft.length 2 (fcl ft)] w2) := Lib.hid (E1.out.below hb)
  clear E1 hb
  go_wp2_with fail
  refine (awake_c (D := (DF D w.heap.size []))).mono ?_
  rintro e w3 ⟨rfl, hb⟩
  have E3 : Hid (Env D w [] [.rw (.slice ta acts.length tk) acts.length 3 (acl acts), .rw (.slice fa ft.length fk) ft.length 2 (fcl ft)] w3) := Lib.hid (E2.out.below hb)
  clear E2 hb
  have hfin := Lib.hid E3.out.bel
  go_wp2
  go_ret
  exact ⟨rfl, hfin.out⟩
set_option maxRecDepth 100000 in
set_option maxHeartbeats 16000000 in
theorem sc_main {D : Nat → Prop} (ft : List (Int × Int)) (acts : Acts) {fa ta : Option Addr} {fk tk : Nat} {w : World} (hx : Fct.at w D (.rw (.slice fa ft.length fk) ft.length 2 (fcl ft))) (hy : Fct.at w D (.rw (.slice ta acts.length tk) acts.length 3 (acl acts))) (hl : acts.length ≤ 100) (hl2 : ft.length ≤ 100) (HF0 : FatsOk ft) (HA0 : ∀ k (h : k < acts.length), acts[k].1 < 256 ∧ acts[k].2.1 < 256 ∧ acts[k].2.2 < 256) :
    Calls Try.prog 7 #[.slice fa ft.length fk, .slice ta acts.length tk] w fun e w' => e = .returned (.bool true) ∧ Below w.heap.size w w' := by
  have E0 : Hid (Env D w [] [.rw (.slice ta acts.length tk) acts.length 3 (acl acts), .rw (.slice fa ft.length fk) ft.length 2 (fcl ft)] w) := Lib.hid (((Env.start D w).arg (.rw (.slice fa ft.length fk) ft.length 2 (fcl ft)) hx).arg (.rw (.slice ta acts.length tk) acts.length 3 (acl acts)) hy)
  clear hx hy
  go_enter Try.func7, Try.ntmps7
  have HF := Lib.hid HF0
  have HA := Lib.hid HA0
  clear HF0 HA0
  have HB := HA
  clear HA
  have hmm := @run_makeMap Try.prog
  have d1 : decide ((100 : Int) < (acts.length : Int)) = false := decide_eq_false (by omega)
  have d2 : decide ((100 : Int) < (ft.length : Int)) = false := decide_eq_false (by omega)
  go_wp2_with fail
  refine (awake_c (D := (DF D w.heap.size []))).mono ?_
  rintro e w1 ⟨rfl, hb⟩
  have E1 : Hid (Env D w [] [.rw (.slice ta acts.length tk) acts.length 3 (acl acts), .rw (.slice fa ft.length fk) ft.length 2 (fcl ft)] w1) := Lib.hid (E0.out.below hb)
  clear E0 hb
  go_wp2_with fail
  refine (rFates_c ft (t := true) (E1.out.fc 1 rfl) (by simp [HF.out]) (by omega)).mono ?_
  rintro e w2 ⟨rfl, hb⟩
  have E2 : Hid (Env D w [] [.rw (.slice ta acts.length tk) acts.length 3 (acl acts), .rw (.slice fa ft.length fk) ft.length 2 (fcl ft)] w2) := Lib.hid (E1.out.below hb)
  clear E1 hb
  go_wp2_with fail
  refine (New_sc (E2.out.fc 1 rfl) hl2 HF.out).mono ?_
  rintro e w3 ⟨⟨na, nj, nb, nk, nc, nm, rfl, n1, n2, n3⟩, hb⟩
  have E3 : Hid (Env D w [] [.rw (.slice nc (SLn [] 0 [] (drS ft ([] : Snt).length)).ft.length nm) (SLn [] 0 [] (drS ft ([] : Snt).length)).ft.length 2 (fcl (SLn [] 0 [] (drS ft ([] : Snt).length)).ft), .rw (.slice nb (SLn [] 0 [] (drS ft ([] : Snt).length)).ats.length nk) (SLn [] 0 [] (drS ft ([] : Snt).length)).ats.length 1 (icl (SLn [] 0 [] (drS ft ([] : Snt).length)).ats), .ms (.slice na (SLn [] 0 [] (drS ft ([] : Snt).length)).L.length nj) (SLn [] 0 [] (drS ft ([] : Snt).length)).L, .rw (.slice ta acts.length tk) acts.length 3 (acl acts), .rw (.slice fa ft.length fk) ft.length 2 (fcl ft)] w3) := Lib.hid (E2.out.got (E2.out.got (E2.out.got (E2.out.below hb) (.ms (.slice na (SLn [] 0 [] (drS ft ([] : Snt).length)).L.length nj) (SLn [] 0 [] (drS ft ([] : Snt).length)).L) n1.out) (.rw (.slice nb (SLn [] 0 [] (drS ft ([] : Snt).length)).ats.length nk) (SLn [] 0 [] (drS ft ([] : Snt).length)).ats.length 1 (icl (SLn [] 0 [] (drS ft ([] : Snt).length)).ats)) n2.out) (.rw (.slice nc (SLn [] 0 [] (drS ft ([] : Snt).length)).ft.length nm) (SLn [] 0 [] (drS ft ([] : Snt).length)).ft.length 2 (fcl (SLn [] 0 [] (drS ft ([] : Snt).length)).ft)) n3.out)
  clear E2 hb n1 n2 n3
  go_wp2_with fail
  have E4 : Hid (Env D w [(w3.heap.size, 64, [.int .i64 0, .slice na (SLn [] 0 [] (drS ft ([] : Snt).length)).L.length nj, .slice nb (SLn [] 0 [] (drS ft ([] : Snt).length)).ats.length nk, .slice nc (SLn [] 0 [] (drS ft ([] : Snt).length)).ft.length nm])] [.rw (.slice nc (SLn [] 0 [] (drS ft ([] : Snt).length)).ft.length nm) (SLn [] 0 [] (drS ft ([] : Snt).length)).ft.length 2 (fcl (SLn [] 0 [] (drS ft ([] : Snt).length)).ft), .rw (.slice nb (SLn [] 0 [] (drS ft ([] : Snt).length)).ats.length nk) (SLn [] 0 [] (drS ft ([] : Snt).length)).ats.length 1 (icl (SLn [] 0 [] (drS ft ([] : Snt).length)).ats), .ms (.slice na (SLn [] 0 [] (drS ft ([] : Snt).length)).L.length nj) (SLn [] 0 [] (drS ft ([] : Snt).length)).L, .rw (.slice ta acts.length tk) acts.length 3 (acl acts), .rw (.slice fa ft.length fk) ft.length 2 (fcl ft)] _) := Lib.hid ((E3.out.push 64 [.int .i64 0, .slice na (SLn [] 0 [] (drS ft ([] : Snt).length)).L.length nj, .slice nb (SLn [] 0 [] (drS ft ([] : Snt).length)).ats.length nk, .slice nc (SLn [] 0 [] (drS ft ([] : Snt).length)).ft.length nm] (w3.heap.size) (by simp)))
  have E5 := Lib.hid (EnvP.made E4.out (w3.heap.size + 1) (by simp))
  clear E3 E4
  clear hmm d1 d2
  generalize (w3.heap.size + 1) = mb at *
  generalize w3.heap.size = g5 at *
  go_loopg [53, 7] (acts.length) (fun gk s53 s7 wr => ∃ (i : Nat) (now : Int) (P : Snt) (lf : List Int) (js : List Nat) (ls : Lst) (m : Nat) (sg : List Bx) (cs : List Value) (pa : Option Addr) (pk : Nat) (na : Option Addr) (nj : Nat) (nb : Option Addr) (nk : Nat) (nc : Option Addr) (nm : Nat), s53 = .int .i64 (i : Int) ∧ s7 = .slice pa P.length pk ∧ Hid (EnvP D w ((g5, 64, [.int .i64 now, .slice na (SLn P now js (drS ft P.length)).L.length nj, .slice nb (SLn P now js (drS ft P.length)).ats.length nk, .slice nc (SLn P now js (drS ft P.length)).ft.length nm]) :: sg) [.ms (.slice na (SLn P now js (drS ft P.length)).L.length nj) (SLn P now js (drS ft P.length)).L, .rw (.slice nb (SLn P now js (drS ft P.length)).ats.length nk) (SLn P now js (drS ft P.length)).ats.length 1 (icl (SLn P now js (drS ft P.length)).ats), .rw (.slice nc (SLn P now js (drS ft P.length)).ft.length nm) (SLn P now js (drS ft P.length)).ft.length 2 (fcl (SLn P now js (drS ft P.length)).ft), .rw (.slice fa ft.length fk) ft.length 2 (fcl ft), .rw (.slice ta acts.length tk) acts.length 3 (acl acts)] mb m ls wr) ∧ Hid (i ≤ acts.length ∧ gk = acts.length - i ∧ m ≤ i) ∧ Hid (ScI ft i now P lf js ls) ∧ Hid (SS sg cs (.slice pa P.length pk) P lf))
  case atStart => exact ⟨0, 0, [], [], [], _, 0, [], [], none, 0, na, nj, nb, nk, nc, nm, rfl, rfl, Lib.hid ⟨⟨E5.out.env.bel, E5.out.env.box, ⟨E5.out.fc 2 rfl, ⟨E5.out.fc 1 rfl, ⟨E5.out.fc 0 rfl, ⟨E5.out.fc 4 rfl, ⟨E5.out.fc 3 rfl, trivial⟩⟩⟩⟩⟩⟩, E5.out.map, E5.out.ge⟩, Lib.hid ⟨Nat.zero_le _, rfl, Nat.le_refl _⟩, Lib.hid (ScI.zero hl2 HF.out), Lib.hid SS.nil⟩
  case round =>
    clear E5
    obtain ⟨i, now, P, lf, js, ls, m, sg, cs, pa, pk, na, nj, nb, nk, nc, nm, rfl, rfl, EL, HA, HI, HS⟩ := hrel
    obtain ⟨a1, a2, a3⟩ := HA.out
    clear HA
    by_cases hy : i < acts.length
    rotate_left
    · have t6 : decide ((i : Int) < (acts.length : Int)) = false := decide_eq_false (by omega)
      have t7 : decide (i < acts.length) = false := decide_eq_false hy
      clear hy
      have hfin := Lib.hid EL.out.env.bel
      go_wp2
      go_ret
      exact ⟨rfl, hfin.out⟩
    have t6 : decide ((i : Int) < (acts.length : Int)) = true := decide_eq_true (by omega)
    have t7 : decide (i < acts.length) = true := decide_eq_true hy
    obtain ⟨b1, b2, b3⟩ := HB.out i hy
    obtain ⟨kd, hkd⟩ : ∃ kd, acts[i].1 = kd := ⟨_, rfl⟩
    obtain ⟨tp, htp⟩ : ∃ tp, acts[i].2.1 = tp := ⟨_, rfl⟩
    obtain ⟨bb, hbb⟩ : ∃ bb, acts[i].2.2 = bb := ⟨_, rfl⟩
    rw [hkd] at b1; rw [htp] at b2; rw [hbb] at b3
    obtain ⟨t, ht⟩ : ∃ t, t = tp % 3 := ⟨_, rfl⟩
    have t3 : t < 3 := by omega
    have e1 : (tp : Int) % 3 = (t : Int) := by rw [ht]; rfl
    have e1w : IntKind.i64.wrap (tp : Int) = (tp : Int) := by rw [IntKind.wrap_i64]; omega
    have hpl : P.length ≤ 100 := by have := HI.out.2.2.1; omega
    have hi100 : i < 100 := by omega
    have hnw := HI.out.2.2.2.2.1
    have hnow : 0 ≤ now ∧ now ≤ 25500 := by omega
    go_upto_region 10 with (fail)
    obtain ⟨tab, tao, rfl⟩ := Rw.addr (EL.out.fc 4 rfl) (by omega)
    have E6 : Hid (EnvP D w ((g5, 64, [.int .i64 now, .slice na (SLn P now js (drS ft P.length)).L.length nj, .slice nb (SLn P now js (drS ft P.length)).ats.length nk, .slice nc (SLn P now js (drS ft P.length)).ft.length nm]) :: sg) [.ce tab (tao + i * 3) (.int .u8 (kd : Nat)), .ce tab (tao + i * 3 + 1) (.int .u8 (tp : Nat)), .ce tab (tao + i * 3 + 2) (.int .u8 (bb : Nat)), .ms (.slice na (SLn P now js (drS ft P.length)).L.length nj) (SLn P now js (drS ft P.length)).L, .rw (.slice nb (SLn P now js (drS ft P.length)).ats.length nk) (SLn P now js (drS ft P.length)).ats.length 1 (icl (SLn P now js (drS ft P.length)).ats), .rw (.slice nc (SLn P now js (drS ft P.length)).ft.length nm) (SLn P now js (drS ft P.length)).ft.length 2 (fcl (SLn P now js (drS ft P.length)).ft), .rw (.slice fa ft.length fk) ft.length 2 (fcl ft), .rw (.slice (some ⟨tab, tao, none⟩) acts.length tk) acts.length 3 (acl acts)] mb m ls _) := Lib.hid (by have h := EL.out.elA 4 rfl rfl (i) hy; rw [hkd, htp, hbb] at h; exact h)
    clear EL
    have u0 := (E6.out.fc 0 rfl).2
    have u1 := (E6.out.fc 1 rfl).2
    have u2 := (E6.out.fc 2 rfl).2
    clear hkd htp hbb
    have HT := Lib.hid ht
    clear ht
    obtain ⟨k3, hk3⟩ : ∃ k3, k3 = kd % 3 := ⟨_, rfl⟩
    have hk33 : k3 = 0 ∨ k3 = 1 ∨ k3 = 2 := by omega
    rcases hk33 with rfl | rfl | rfl
    · as_aux_lemma =>
        have e2 : (kd : Int) % 3 = 0 := by omega
        have e2n : kd % 3 = 0 := hk3.symm
        have HK3 := Lib.hid hk3
        clear hk3
        obtain ⟨c, d, js2, P9, hq, hd, hf0, hP9, hI2⟩ := HI.out.send2 hi100 hl2 HF.out t t3 bb
        have HP9 := Lib.hid hP9
        have HL9 : Hid (P9.length = P.length + 1) := Lib.hid (by rw [hP9]; simp)
        clear hP9
        have HQ := Lib.hid hq
        have HI2 := Lib.hid hI2
        obtain ⟨hd0, hd9⟩ := hd
        have HF0 := Lib.hid hf0
        clear hq hI2 hf0
        by_cases hP : P.length < ft.length
        · as_aux_lemma =>
            have t8 : decide ((P.length : Int) < (ft.length : Int)) = true := decide_eq_true (by omega)
            have t9 : decide (P.length < ft.length) = true := decide_eq_true hP
            have hfe : ft[P.length] = ((c : Int), d) := by rw [← fate_yes hP]; exact HF0.out
            go_upto_region 16 with (fail)
            have E7 : Hid (EnvP D w ((wr.heap.size + 1, 72, [.int .i64 1, .int .i64 0]) :: (wr.heap.size, 70, [.int .u8 (kd : Nat), .int .u8 (tp : Nat), .int .u8 (bb : Nat)]) :: (g5, 64, [.int .i64 now, .slice na (SLn P now js (drS ft P.length)).L.length nj, .slice nb (SLn P now js (drS ft P.length)).ats.length nk, .slice nc (SLn P now js (drS ft P.length)).ft.length nm]) :: sg) [.ce tab (tao + i * 3) (.int .u8 (kd : Nat)), .ce tab (tao + i * 3 + 1) (.int .u8 (tp : Nat)), .ce tab (tao + i * 3 + 2) (.int .u8 (bb : Nat)), .ms (.slice na (SLn P now js (drS ft P.length)).L.length nj) (SLn P now js (drS ft P.length)).L, .rw (.slice nb (SLn P now js (drS ft P.length)).ats.length nk) (SLn P now js (drS ft P.length)).ats.length 1 (icl (SLn P now js (drS ft P.length)).ats), .rw (.slice nc (SLn P now js (drS ft P.length)).ft.length nm) (SLn P now js (drS ft P.length)).ft.length 2 (fcl (SLn P now js (drS ft P.length)).ft), .rw (.slice fa ft.length fk) ft.length 2 (fcl ft), .rw (.slice (some ⟨tab, tao, none⟩) acts.length tk) acts.length 3 (acl acts)] mb m ls _) := Lib.hid (((E6.out.push 70 [.int .u8 (kd : Nat), .int .u8 (tp : Nat), .int .u8 (bb : Nat)] (wr.heap.size) (by simp)).push 72 [.int .i64 1, .int .i64 0] (wr.heap.size + 1) (by simp)))
            clear u0 u1 u2 E6
            generalize (wr.alloc (.cells #[.int .u8 (kd : Nat), .int .u8 (tp : Nat), .int .u8 (bb : Nat)] 70)).alloc (.cells #[.int .i64 1, .int .i64 0] 72) = w4 at *
            obtain ⟨fab, fao, rfl⟩ := Rw.addr (E7.out.fc 6 rfl) (by omega)
            have E8 : Hid (EnvP D w ((wr.heap.size + 1, 72, [.int .i64 1, .int .i64 0]) :: (wr.heap.size, 70, [.int .u8 (kd : Nat), .int .u8 (tp : Nat), .int .u8 (bb : Nat)]) :: (g5, 64, [.int .i64 now, .slice na (SLn P now js (drS ft P.length)).L.length nj, .slice nb (SLn P now js (drS ft P.length)).ats.length nk, .slice nc (SLn P now js (drS ft P.length)).ft.length nm]) :: sg) [.ce fab (fao + P.length * 2) (.int .i64 ft[P.length].1), .ce fab (fao + P.length * 2 + 1) (.int .i64 ft[P.length].2), .ce tab (tao + i * 3) (.int .u8 (kd : Nat)), .ce tab (tao + i * 3 + 1) (.int .u8 (tp : Nat)), .ce tab (tao + i * 3 + 2) (.int .u8 (bb : Nat)), .ms (.slice na (SLn P now js (drS ft P.length)).L.length nj) (SLn P now js (drS ft P.length)).L, .rw (.slice nb (SLn P now js (drS ft P.length)).ats.length nk) (SLn P now js (drS ft P.length)).ats.length 1 (icl (SLn P now js (drS ft P.length)).ats), .rw (.slice nc (SLn P now js (drS ft P.length)).ft.length nm) (SLn P now js (drS ft P.length)).ft.length 2 (fcl (SLn P now js (drS ft P.length)).ft), .rw (.slice (some ⟨fab, fao, none⟩) ft.length fk) ft.length 2 (fcl ft), .rw (.slice (some ⟨tab, tao, none⟩) acts.length tk) acts.length 3 (acl acts)] mb m ls _) := Lib.hid (E7.out.elF 6 rfl rfl (P.length) hP)
            clear E7
            have q0 := (E8.out.fc 0 rfl).2
            have q1 := (E8.out.fc 1 rfl).2
            have E9 : Hid (EnvP D w ((wr.heap.size + 1, 72, [.int .i64 1, .int .i64 0]) :: (wr.heap.size, 70, [.int .u8 (kd : Nat), .int .u8 (tp : Nat), .int .u8 (bb : Nat)]) :: (g5, 64, [.int .i64 now, .slice na (SLn P now js (drS ft P.length)).L.length nj, .slice nb (SLn P now js (drS ft P.length)).ats.length nk, .slice nc (SLn P now js (drS ft P.length)).ft.length nm]) :: sg) [.ce fab (fao + P.length * 2) (.int .i64 (c : Nat)), .ce fab (fao + P.length * 2 + 1) (.int .i64 d), .ce tab (tao + i * 3) (.int .u8 (kd : Nat)), .ce tab (tao + i * 3 + 1) (.int .u8 (tp : Nat)), .ce tab (tao + i * 3 + 2) (.int .u8 (bb : Nat)), .ms (.slice na (SLn P now js (drS ft P.length)).L.length nj) (SLn P now js (drS ft P.length)).L, .rw (.slice nb (SLn P now js (drS ft P.length)).ats.length nk) (SLn P now js (drS ft P.length)).ats.length 1 (icl (SLn P now js (drS ft P.length)).ats), .rw (.slice nc (SLn P now js (drS ft P.length)).ft.length nm) (SLn P now js (drS ft P.length)).ft.length 2 (fcl (SLn P now js (drS ft P.length)).ft), .rw (.slice (some ⟨fab, fao, none⟩) ft.length fk) ft.length 2 (fcl ft), .rw (.slice (some ⟨tab, tao, none⟩) acts.length tk) acts.length 3 (acl acts)] mb m ls _) := Lib.hid (by have h := E8.out; rw [hfe] at h; exact h)
            clear q0 q1 E8
            have q0 := (E9.out.fc 0 rfl).2
            have q1 := (E9.out.fc 1 rfl).2
            have b1 := E9.out.bx 0 rfl
            have c1_0 := b1.cell 0 rfl
            have c1_1 := b1.cell 1 rfl
            have f1_0 := b1.frozen 0
            have f1_1 := b1.frozen 1
            clear b1
            clear hfe
            have E10 : Hid (EnvP D w ((wr.heap.size + 1, 72, [.int .i64 (c : Nat), .int .i64 d]) :: (wr.heap.size, 70, [.int .u8 (kd : Nat), .int .u8 (tp : Nat), .int .u8 (bb : Nat)]) :: (g5, 64, [.int .i64 now, .slice na (SLn P now js (drS ft P.length)).L.length nj, .slice nb (SLn P now js (drS ft P.length)).ats.length nk, .slice nc (SLn P now js (drS ft P.length)).ft.length nm]) :: sg) [.ce fab (fao + P.length * 2) (.int .i64 (c : Nat)), .ce fab (fao + P.length * 2 + 1) (.int .i64 d), .ce tab (tao + i * 3) (.int .u8 (kd : Nat)), .ce tab (tao + i * 3 + 1) (.int .u8 (tp : Nat)), .ce tab (tao + i * 3 + 2) (.int .u8 (bb : Nat)), .ms (.slice na (SLn P now js (drS ft P.length)).L.length nj) (SLn P now js (drS ft P.length)).L, .rw (.slice nb (SLn P now js (drS ft P.length)).ats.length nk) (SLn P now js (drS ft P.length)).ats.length 1 (icl (SLn P now js (drS ft P.length)).ats), .rw (.slice nc (SLn P now js (drS ft P.length)).ft.length nm) (SLn P now js (drS ft P.length)).ft.length 2 (fcl (SLn P now js (drS ft P.length)).ft), .rw (.slice (some ⟨fab, fao, none⟩) ft.length fk) ft.length 2 (fcl ft), .rw (.slice (some ⟨tab, tao, none⟩) acts.length tk) acts.length 3 (acl acts)] mb m ls _) := Lib.hid (((E9.out.set 0 0 (.int .i64 (c : Nat)) rfl).set 0 1 (.int .i64 d) rfl))
            have b2 := E10.out.bx 2 rfl
            have c2_0 := b2.cell 0 rfl
            have c2_1 := b2.cell 1 rfl
            have c2_2 := b2.cell 2 rfl
            have c2_3 := b2.cell 3 rfl
            clear b2
            have b3 := E10.out.bx 1 rfl
            have c3_2 := b3.cell 2 rfl
            clear b3
            have E11 : Hid (EnvP D w ((w4.heap.size, 5, [.int .u8 (bb : Nat)]) :: (wr.heap.size + 1, 72, [.int .i64 (c : Nat), .int .i64 d]) :: (wr.heap.size, 70, [.int .u8 (kd : Nat), .int .u8 (tp : Nat), .int .u8 (bb : Nat)]) :: (g5, 64, [.int .i64 now, .slice na (SLn P now js (drS ft P.length)).L.length nj, .slice nb (SLn P now js (drS ft P.length)).ats.length nk, .slice nc (SLn P now js (drS ft P.length)).ft.length nm]) :: sg) [.ce fab (fao + P.length * 2) (.int .i64 (c : Nat)), .ce fab (fao + P.length * 2 + 1) (.int .i64 d), .ce tab (tao + i * 3) (.int .u8 (kd : Nat)), .ce tab (tao + i * 3 + 1) (.int .u8 (tp : Nat)), .ce tab (tao + i * 3 + 2) (.int .u8 (bb : Nat)), .ms (.slice na (SLn P now js (drS ft P.length)).L.length nj) (SLn P now js (drS ft P.length)).L, .rw (.slice nb (SLn P now js (drS ft P.length)).ats.length nk) (SLn P now js (drS ft P.length)).ats.length 1 (icl (SLn P now js (drS ft P.length)).ats), .rw (.slice nc (SLn P now js (drS ft P.length)).ft.length nm) (SLn P now js (drS ft P.length)).ft.length 2 (fcl (SLn P now js (drS ft P.length)).ft), .rw (.slice (some ⟨fab, fao, none⟩) ft.length fk) ft.length 2 (fcl ft), .rw (.slice (some ⟨tab, tao, none⟩) acts.length tk) acts.length 3 (acl acts)] mb m ls _) := Lib.hid ((E10.out.push 5 [.int .u8 (bb : Nat)] (w4.heap.size) (by simp)))
            have E12 : Hid (EnvP D w ((wr.heap.size + 1, 72, [.int .i64 (c : Nat), .int .i64 d]) :: (wr.heap.size, 70, [.int .u8 (kd : Nat), .int .u8 (tp : Nat), .int .u8 (bb : Nat)]) :: (g5, 64, [.int .i64 now, .slice na (SLn P now js (drS ft P.length)).L.length nj, .slice nb (SLn P now js (drS ft P.length)).ats.length nk, .slice nc (SLn P now js (drS ft P.length)).ft.length nm]) :: sg) [.bs (.slice (some ⟨w4.heap.size, 0, none⟩) 1 1) [bb], .ce fab (fao + P.length * 2) (.int .i64 (c : Nat)), .ce fab (fao + P.length * 2 + 1) (.int .i64 d), .ce tab (tao + i * 3) (.int .u8 (kd : Nat)), .ce tab (tao + i * 3 + 1) (.int .u8 (tp : Nat)), .ce tab (tao + i * 3 + 2) (.int .u8 (bb : Nat)), .ms (.slice na (SLn P now js (drS ft P.length)).L.length nj) (SLn P now js (drS ft P.length)).L, .rw (.slice nb (SLn P now js (drS ft P.length)).ats.length nk) (SLn P now js (drS ft P.length)).ats.length 1 (icl (SLn P now js (drS ft P.length)).ats), .rw (.slice nc (SLn P now js (drS ft P.length)).ft.length nm) (SLn P now js (drS ft P.length)).ft.length 2 (fcl (SLn P now js (drS ft P.length)).ft), .rw (.slice (some ⟨fab, fao, none⟩) ft.length fk) ft.length 2 (fcl ft), .rw (.slice (some ⟨tab, tao, none⟩) acts.length tk) acts.length 3 (acl acts)] mb m ls _) := Lib.hid (E11.out.freeze8 b3)
            clear E11
            go_wp2_with fail
            refine (Send_sc HI.out HQ.out HP9.out (E12.out.fc 6 rfl) (E12.out.fc 7 rfl) (E12.out.fc 8 rfl) (E12.out.fc 0 rfl)).mono ?_
            rintro e w5 ⟨⟨va, vj, vb, vk, vc, vm, rfl, v1, v2, v3⟩, hb⟩
            have E13 : Hid (EnvP D w ((wr.heap.size + 1, 72, [.int .i64 (c : Nat), .int .i64 d]) :: (wr.heap.size, 70, [.int .u8 (kd : Nat), .int .u8 (tp : Nat), .int .u8 (bb : Nat)]) :: (g5, 64, [.int .i64 now, .slice na (SLn P now js (drS ft P.length)).L.length nj, .slice nb (SLn P now js (drS ft P.length)).ats.length nk, .slice nc (SLn P now js (drS ft P.length)).ft.length nm]) :: sg) [.rw (.slice vc (SLn P9 now js2 (drS ft P9.length)).ft.length vm) (SLn P9 now js2 (drS ft P9.length)).ft.length 2 (fcl (SLn P9 now js2 (drS ft P9.length)).ft), .rw (.slice vb (SLn P9 now js2 (drS ft P9.length)).ats.length vk) (SLn P9 now js2 (drS ft P9.length)).ats.length 1 (icl (SLn P9 now js2 (drS ft P9.length)).ats), .ms (.slice va (SLn P9 now js2 (drS ft P9.length)).L.length vj) (SLn P9 now js2 (drS ft P9.length)).L, .bs (.slice (some ⟨w4.heap.size, 0, none⟩) 1 1) [bb], .ce fab (fao + P.length * 2) (.int .i64 (c : Nat)), .ce fab (fao + P.length * 2 + 1) (.int .i64 d), .ce tab (tao + i * 3) (.int .u8 (kd : Nat)), .ce tab (tao + i * 3 + 1) (.int .u8 (tp : Nat)), .ce tab (tao + i * 3 + 2) (.int .u8 (bb : Nat)), .ms (.slice na (SLn P now js (drS ft P.length)).L.length nj) (SLn P now js (drS ft P.length)).L, .rw (.slice nb (SLn P now js (drS ft P.length)).ats.length nk) (SLn P now js (drS ft P.length)).ats.length 1 (icl (SLn P now js (drS ft P.length)).ats), .rw (.slice nc (SLn P now js (drS ft P.length)).ft.length nm) (SLn P now js (drS ft P.length)).ft.length 2 (fcl (SLn P now js (drS ft P.length)).ft), .rw (.slice (some ⟨fab, fao, none⟩) ft.length fk) ft.length 2 (fcl ft), .rw (.slice (some ⟨tab, tao, none⟩) acts.length tk) acts.length 3 (acl acts)] mb m ls w5) := Lib.hid (E12.out.got (E12.out.got (E12.out.got (E12.out.below hb) (.ms (.slice va (SLn P9 now js2 (drS ft P9.length)).L.length vj) (SLn P9 now js2 (drS ft P9.length)).L) v1.out) (.rw (.slice vb (SLn P9 now js2 (drS ft P9.length)).ats.length vk) (SLn P9 now js2 (drS ft P9.length)).ats.length 1 (icl (SLn P9 now js2 (drS ft P9.length)).ats)) v2.out) (.rw (.slice vc (SLn P9 now js2 (drS ft P9.length)).ft.length vm) (SLn P9 now js2 (drS ft P9.length)).ft.length 2 (fcl (SLn P9 now js2 (drS ft P9.length)).ft)) v3.out)
            clear q0 q1 c1_0 c1_1 f1_0 f1_1 c2_0 c2_1 c2_2 c2_3 c3_2 E9 E10 E12 hb v1 v2 v3
            have e5 : wrap64 (now + d) = now + d := IntWalk.wrap64_in _ (by omega)
            have E14 : Hid (EnvP D w ((w5.heap.size, 64, [.int .i64 now, .slice va (SLn P9 now js2 (drS ft P9.length)).L.length vj, .slice vb (SLn P9 now js2 (drS ft P9.length)).ats.length vk, .slice vc (SLn P9 now js2 (drS ft P9.length)).ft.length vm]) :: (wr.heap.size + 1, 72, [.int .i64 (c : Nat), .int .i64 d]) :: (wr.heap.size, 70, [.int .u8 (kd : Nat), .int .u8 (tp : Nat), .int .u8 (bb : Nat)]) :: (g5, 64, [.int .i64 now, .slice na (SLn P now js (drS ft P.length)).L.length nj, .slice nb (SLn P now js (drS ft P.length)).ats.length nk, .slice nc (SLn P now js (drS ft P.length)).ft.length nm]) :: sg) [.rw (.slice vc (SLn P9 now js2 (drS ft P9.length)).ft.length vm) (SLn P9 now js2 (drS ft P9.length)).ft.length 2 (fcl (SLn P9 now js2 (drS ft P9.length)).ft), .rw (.slice vb (SLn P9 now js2 (drS ft P9.length)).ats.length vk) (SLn P9 now js2 (drS ft P9.length)).ats.length 1 (icl (SLn P9 now js2 (drS ft P9.length)).ats), .ms (.slice va (SLn P9 now js2 (drS ft P9.length)).L.length vj) (SLn P9 now js2 (drS ft P9.length)).L, .bs (.slice (some ⟨w4.heap.size, 0, none⟩) 1 1) [bb], .ce fab (fao + P.length * 2) (.int .i64 (c : Nat)), .ce fab (fao + P.length * 2 + 1) (.int .i64 d), .ce tab (tao + i * 3) (.int .u8 (kd : Nat)), .ce tab (tao + i * 3 + 1) (.int .u8 (tp : Nat)), .ce tab (tao + i * 3 + 2) (.int .u8 (bb : Nat)), .ms (.slice na (SLn P now js (drS ft P.length)).L.length nj) (SLn P now js (drS ft P.length)).L, .rw (.slice nb (SLn P now js (drS ft P.length)).ats.length nk) (SLn P now js (drS ft P.length)).ats.length 1 (icl (SLn P now js (drS ft P.length)).ats), .rw (.slice nc (SLn P now js (drS ft P.length)).ft.length nm) (SLn P now js (drS ft P.length)).ft.length 2 (fcl (SLn P now js (drS ft P.length)).ft), .rw (.slice (some ⟨fab, fao, none⟩) ft.length fk) ft.length 2 (fcl ft), .rw (.slice (some ⟨tab, tao, none⟩) acts.length tk) acts.length 3 (acl acts)] mb m ls _) := Lib.hid ((E13.out.push 64 [.int .i64 now, .slice va (SLn P9 now js2 (drS ft P9.length)).L.length vj, .slice vb (SLn P9 now js2 (drS ft P9.length)).ats.length vk, .slice vc (SLn P9 now js2 (drS ft P9.length)).ft.length vm] (w5.heap.size) (by simp)))
            have b4 := E14.out.bx 3 rfl
            have c4_0 := b4.cell 0 rfl
            clear b4
            have b5 := E14.out.bx 1 rfl
            have c5_1 := b5.cell 1 rfl
            clear b5
            have b6 := E14.out.bx 1 rfl
            have c6_0 := b6.cell 0 rfl
            clear b6
            have E15 : Hid (EnvP D w ((w5.heap.size + 1, 75, [.int .i64 (t : Nat), .int .i64 (now + d), .int .i64 (c : Nat)]) :: (w5.heap.size, 64, [.int .i64 now, .slice va (SLn P9 now js2 (drS ft P9.length)).L.length vj, .slice vb (SLn P9 now js2 (drS ft P9.length)).ats.length vk, .slice vc (SLn P9 now js2 (drS ft P9.length)).ft.length vm]) :: (wr.heap.size + 1, 72, [.int .i64 (c : Nat), .int .i64 d]) :: (wr.heap.size, 70, [.int .u8 (kd : Nat), .int .u8 (tp : Nat), .int .u8 (bb : Nat)]) :: (g5, 64, [.int .i64 now, .slice na (SLn P now js (drS ft P.length)).L.length nj, .slice nb (SLn P now js (drS ft P.length)).ats.length nk, .slice nc (SLn P now js (drS ft P.length)).ft.length nm]) :: sg) [.rw (.slice vc (SLn P9 now js2 (drS ft P9.length)).ft.length vm) (SLn P9 now js2 (drS ft P9.length)).ft.length 2 (fcl (SLn P9 now js2 (drS ft P9.length)).ft), .rw (.slice vb (SLn P9 now js2 (drS ft P9.length)).ats.length vk) (SLn P9 now js2 (drS ft P9.length)).ats.length 1 (icl (SLn P9 now js2 (drS ft P9.length)).ats), .ms (.slice va (SLn P9 now js2 (drS ft P9.length)).L.length vj) (SLn P9 now js2 (drS ft P9.length)).L, .bs (.slice (some ⟨w4.heap.size, 0, none⟩) 1 1) [bb], .ce fab (fao + P.length * 2) (.int .i64 (c : Nat)), .ce fab (fao + P.length * 2 + 1) (.int .i64 d), .ce tab (tao + i * 3) (.int .u8 (kd : Nat)), .ce tab (tao + i * 3 + 1) (.int .u8 (tp : Nat)), .ce tab (tao + i * 3 + 2) (.int .u8 (bb : Nat)), .ms (.slice na (SLn P now js (drS ft P.length)).L.length nj) (SLn P now js (drS ft P.length)).L, .rw (.slice nb (SLn P now js (drS ft P.length)).ats.length nk) (SLn P now js (drS ft P.length)).ats.length 1 (icl (SLn P now js (drS ft P.length)).ats), .rw (.slice nc (SLn P now js (drS ft P.length)).ft.length nm) (SLn P now js (drS ft P.length)).ft.length 2 (fcl (SLn P now js (drS ft P.length)).ft), .rw (.slice (some ⟨fab, fao, none⟩) ft.length fk) ft.length 2 (fcl ft), .rw (.slice (some ⟨tab, tao, none⟩) acts.length tk) acts.length 3 (acl acts)] mb m ls _) := Lib.hid ((E14.out.push 75 [.int .i64 (t : Nat), .int .i64 (now + d), .int .i64 (c : Nat)] (w5.heap.size + 1) (by simp)))
            go_wp2_with (at_builtin; refine wpl_appP rfl _ _ rfl E15.out (A := [(w5.heap.size + 1, 75, [.int .i64 (t : Nat), .int .i64 (now + d), .int .i64 (c : Nat)]), (w5.heap.size, 64, [.int .i64 now, .slice va (SLn P9 now js2 (drS ft P9.length)).L.length vj, .slice vb (SLn P9 now js2 (drS ft P9.length)).ats.length vk, .slice vc (SLn P9 now js2 (drS ft P9.length)).ft.length vm]), (wr.heap.size + 1, 72, [.int .i64 (c : Nat), .int .i64 d]), (wr.heap.size, 70, [.int .u8 (kd : Nat), .int .u8 (tp : Nat), .int .u8 (bb : Nat)]), (g5, 64, [.int .i64 now, .slice na (SLn P now js (drS ft P.length)).L.length nj, .slice nb (SLn P now js (drS ft P.length)).ats.length nk, .slice nc (SLn P now js (drS ft P.length)).ft.length nm])]) (sg := sg) (B' := []) (F := ((w5.heap.size + 1, 75, [.int .i64 (t : Nat), .int .i64 (now + d), .int .i64 (c : Nat)]) :: (w5.heap.size, 64, [.int .i64 now, .slice va (SLn P9 now js2 (drS ft P9.length)).L.length vj, .slice vb (SLn P9 now js2 (drS ft P9.length)).ats.length vk, .slice vc (SLn P9 now js2 (drS ft P9.length)).ft.length vm]) :: (wr.heap.size + 1, 72, [.int .i64 (c : Nat), .int .i64 d]) :: (wr.heap.size, 70, [.int .u8 (kd : Nat), .int .u8 (tp : Nat), .int .u8 (bb : Nat)]) :: (g5, 64, [.int .i64 now, .slice na (SLn P now js (drS ft P.length)).L.length nj, .slice nb (SLn P now js (drS ft P.length)).ats.length nk, .slice nc (SLn P now js (drS ft P.length)).ft.length nm]) :: sg)) (by simp) HS.out rfl bb rfl (SrcN.snt (E15.out.bx 0 rfl)) (by omega) ?_)
            intro gs pq cs2 ws HS2 ES
            have E16 : Hid (EnvP D w ((w5.heap.size + 1, 75, [.int .i64 (t : Nat), .int .i64 (now + d), .int .i64 (c : Nat)]) :: (w5.heap.size, 64, [.int .i64 now, .slice va (SLn P9 now js2 (drS ft P9.length)).L.length vj, .slice vb (SLn P9 now js2 (drS ft P9.length)).ats.length vk, .slice vc (SLn P9 now js2 (drS ft P9.length)).ft.length vm]) :: (wr.heap.size + 1, 72, [.int .i64 (c : Nat), .int .i64 d]) :: (wr.heap.size, 70, [.int .u8 (kd : Nat), .int .u8 (tp : Nat), .int .u8 (bb : Nat)]) :: (g5, 64, [.int .i64 now, .slice na (SLn P now js (drS ft P.length)).L.length nj, .slice nb (SLn P now js (drS ft P.length)).ats.length nk, .slice nc (SLn P now js (drS ft P.length)).ft.length nm]) :: [(gs, 75, cs2)]) [.rw (.slice vc (SLn P9 now js2 (drS ft P9.length)).ft.length vm) (SLn P9 now js2 (drS ft P9.length)).ft.length 2 (fcl (SLn P9 now js2 (drS ft P9.length)).ft), .rw (.slice vb (SLn P9 now js2 (drS ft P9.length)).ats.length vk) (SLn P9 now js2 (drS ft P9.length)).ats.length 1 (icl (SLn P9 now js2 (drS ft P9.length)).ats), .ms (.slice va (SLn P9 now js2 (drS ft P9.length)).L.length vj) (SLn P9 now js2 (drS ft P9.length)).L, .bs (.slice (some ⟨w4.heap.size, 0, none⟩) 1 1) [bb], .ce fab (fao + P.length * 2) (.int .i64 (c : Nat)), .ce fab (fao + P.length * 2 + 1) (.int .i64 d), .ce tab (tao + i * 3) (.int .u8 (kd : Nat)), .ce tab (tao + i * 3 + 1) (.int .u8 (tp : Nat)), .ce tab (tao + i * 3 + 2) (.int .u8 (bb : Nat)), .ms (.slice na (SLn P now js (drS ft P.length)).L.length nj) (SLn P now js (drS ft P.length)).L, .rw (.slice nb (SLn P now js (drS ft P.length)).ats.length nk) (SLn P now js (drS ft P.length)).ats.length 1 (icl (SLn P now js (drS ft P.length)).ats), .rw (.slice nc (SLn P now js (drS ft P.length)).ft.length nm) (SLn P now js (drS ft P.length)).ft.length 2 (fcl (SLn P now js (drS ft P.length)).ft), .rw (.slice (some ⟨fab, fao, none⟩) ft.length fk) ft.length 2 (fcl ft), .rw (.slice (some ⟨tab, tao, none⟩) acts.length tk) acts.length 3 (acl acts)] mb m ls ws) := Lib.hid (ES.out.cast (by simp))
            clear c4_0 c5_1 c6_0 E13 E14 E15 ES
            have b7 := E16.out.bx 1 rfl
            have c7_0 := b7.cell 0 rfl
            have c7_1 := b7.cell 1 rfl
            have c7_2 := b7.cell 2 rfl
            have c7_3 := b7.cell 3 rfl
            clear b7
            have b8 := E16.out.bx 4 rfl
            have c8_0 := b8.cell 0 rfl
            have c8_1 := b8.cell 1 rfl
            have c8_2 := b8.cell 2 rfl
            have c8_3 := b8.cell 3 rfl
            have f8_0 := b8.frozen 0
            have f8_1 := b8.frozen 1
            have f8_2 := b8.frozen 2
            have f8_3 := b8.frozen 3
            clear b8
            go_wp2_with fail
            have E17 : Hid (EnvP D w ((w5.heap.size + 1, 75, [.int .i64 (t : Nat), .int .i64 (now + d), .int .i64 (c : Nat)]) :: (w5.heap.size, 64, [.int .i64 now, .slice va (SLn P9 now js2 (drS ft P9.length)).L.length vj, .slice vb (SLn P9 now js2 (drS ft P9.length)).ats.length vk, .slice vc (SLn P9 now js2 (drS ft P9.length)).ft.length vm]) :: (wr.heap.size + 1, 72, [.int .i64 (c : Nat), .int .i64 d]) :: (wr.heap.size, 70, [.int .u8 (kd : Nat), .int .u8 (tp : Nat), .int .u8 (bb : Nat)]) :: (g5, 64, [.int .i64 now, .slice va (SLn P9 now js2 (drS ft P9.length)).L.length vj, .slice vb (SLn P9 now js2 (drS ft P9.length)).ats.length vk, .slice vc (SLn P9 now js2 (drS ft P9.length)).ft.length vm]) :: [(gs, 75, cs2)]) [.rw (.slice vc (SLn P9 now js2 (drS ft P9.length)).ft.length vm) (SLn P9 now js2 (drS ft P9.length)).ft.length 2 (fcl (SLn P9 now js2 (drS ft P9.length)).ft), .rw (.slice vb (SLn P9 now js2 (drS ft P9.length)).ats.length vk) (SLn P9 now js2 (drS ft P9.length)).ats.length 1 (icl (SLn P9 now js2 (drS ft P9.length)).ats), .ms (.slice va (SLn P9 now js2 (drS ft P9.length)).L.length vj) (SLn P9 now js2 (drS ft P9.length)).L, .bs (.slice (some ⟨w4.heap.size, 0, none⟩) 1 1) [bb], .ce fab (fao + P.length * 2) (.int .i64 (c : Nat)), .ce fab (fao + P.length * 2 + 1) (.int .i64 d), .ce tab (tao + i * 3) (.int .u8 (kd : Nat)), .ce tab (tao + i * 3 + 1) (.int .u8 (tp : Nat)), .ce tab (tao + i * 3 + 2) (.int .u8 (bb : Nat)), .ms (.slice na (SLn P now js (drS ft P.length)).L.length nj) (SLn P now js (drS ft P.length)).L, .rw (.slice nb (SLn P now js (drS ft P.length)).ats.length nk) (SLn P now js (drS ft P.length)).ats.length 1 (icl (SLn P now js (drS ft P.length)).ats), .rw (.slice nc (SLn P now js (drS ft P.length)).ft.length nm) (SLn P now js (drS ft P.length)).ft.length 2 (fcl (SLn P now js (drS ft P.length)).ft), .rw (.slice (some ⟨fab, fao, none⟩) ft.length fk) ft.length 2 (fcl ft), .rw (.slice (some ⟨tab, tao, none⟩) acts.length tk) acts.length 3 (acl acts)] mb m ls _) := Lib.hid (((((E16.out.set 4 0 (.int .i64 now) rfl).set 4 1 (.slice va (SLn P9 now js2 (drS ft P9.length)).L.length vj) rfl).set 4 2 (.slice vb (SLn P9 now js2 (drS ft P9.length)).ats.length vk) rfl).set 4 3 (.slice vc (SLn P9 now js2 (drS ft P9.length)).ft.length vm) rfl))
            refine (Valid_sc HI2.out (E17.out.fc 2 rfl) (E17.out.fc 1 rfl) (E17.out.fc 0 rfl)).mono ?_
            rintro e w6 ⟨rfl, hb⟩
            have E18 : Hid (EnvP D w ((w5.heap.size + 1, 75, [.int .i64 (t : Nat), .int .i64 (now + d), .int .i64 (c : Nat)]) :: (w5.heap.size, 64, [.int .i64 now, .slice va (SLn P9 now js2 (drS ft P9.length)).L.length vj, .slice vb (SLn P9 now js2 (drS ft P9.length)).ats.length vk, .slice vc (SLn P9 now js2 (drS ft P9.length)).ft.length vm]) :: (wr.heap.size + 1, 72, [.int .i64 (c : Nat), .int .i64 d]) :: (wr.heap.size, 70, [.int .u8 (kd : Nat), .int .u8 (tp : Nat), .int .u8 (bb : Nat)]) :: (g5, 64, [.int .i64 now, .slice va (SLn P9 now js2 (drS ft P9.length)).L.length vj, .slice vb (SLn P9 now js2 (drS ft P9.length)).ats.length vk, .slice vc (SLn P9 now js2 (drS ft P9.length)).ft.length vm]) :: [(gs, 75, cs2)]) [.rw (.slice vc (SLn P9 now js2 (drS ft P9.length)).ft.length vm) (SLn P9 now js2 (drS ft P9.length)).ft.length 2 (fcl (SLn P9 now js2 (drS ft P9.length)).ft), .rw (.slice vb (SLn P9 now js2 (drS ft P9.length)).ats.length vk) (SLn P9 now js2 (drS ft P9.length)).ats.length 1 (icl (SLn P9 now js2 (drS ft P9.length)).ats), .ms (.slice va (SLn P9 now js2 (drS ft P9.length)).L.length vj) (SLn P9 now js2 (drS ft P9.length)).L, .bs (.slice (some ⟨w4.heap.size, 0, none⟩) 1 1) [bb], .ce fab (fao + P.length * 2) (.int .i64 (c : Nat)), .ce fab (fao + P.length * 2 + 1) (.int .i64 d), .ce tab (tao + i * 3) (.int .u8 (kd : Nat)), .ce tab (tao + i * 3 + 1) (.int .u8 (tp : Nat)), .ce tab (tao + i * 3 + 2) (.int .u8 (bb : Nat)), .ms (.slice na (SLn P now js (drS ft P.length)).L.length nj) (SLn P now js (drS ft P.length)).L, .rw (.slice nb (SLn P now js (drS ft P.length)).ats.length nk) (SLn P now js (drS ft P.length)).ats.length 1 (icl (SLn P now js (drS ft P.length)).ats), .rw (.slice nc (SLn P now js (drS ft P.length)).ft.length nm) (SLn P now js (drS ft P.length)).ft.length 2 (fcl (SLn P now js (drS ft P.length)).ft), .rw (.slice (some ⟨fab, fao, none⟩) ft.length fk) ft.length 2 (fcl ft), .rw (.slice (some ⟨tab, tao, none⟩) acts.length tk) acts.length 3 (acl acts)] mb m ls w6) := Lib.hid (E17.out.below hb)
            clear c7_0 c7_1 c7_2 c7_3 c8_0 c8_1 c8_2 c8_3 f8_0 f8_1 f8_2 f8_3 E16 E17 hb
            have HS3 : Hid (SS [(gs, 75, cs2)] cs2 (.slice (some ⟨gs, 0, none⟩) P9.length pq) P9 (lf ++ [(c : Int)])) := Lib.hid (by have h := HS2.out; rw [← HP9.out, ← HL9.out] at h; exact h)
            have EZ := Lib.hid (EnvP.keep (A := [(w5.heap.size + 1, 75, [.int .i64 (t : Nat), .int .i64 (now + d), .int .i64 (c : Nat)]), (w5.heap.size, 64, [.int .i64 now, .slice va (SLn P9 now js2 (drS ft P9.length)).L.length vj, .slice vb (SLn P9 now js2 (drS ft P9.length)).ats.length vk, .slice vc (SLn P9 now js2 (drS ft P9.length)).ft.length vm]), (wr.heap.size + 1, 72, [.int .i64 (c : Nat), .int .i64 d]), (wr.heap.size, 70, [.int .u8 (kd : Nat), .int .u8 (tp : Nat), .int .u8 (bb : Nat)])]) (G' := [.ms (.slice va (SLn P9 now js2 (drS ft P9.length)).L.length vj) (SLn P9 now js2 (drS ft P9.length)).L, .rw (.slice vb (SLn P9 now js2 (drS ft P9.length)).ats.length vk) (SLn P9 now js2 (drS ft P9.length)).ats.length 1 (icl (SLn P9 now js2 (drS ft P9.length)).ats), .rw (.slice vc (SLn P9 now js2 (drS ft P9.length)).ft.length vm) (SLn P9 now js2 (drS ft P9.length)).ft.length 2 (fcl (SLn P9 now js2 (drS ft P9.length)).ft), .rw (.slice (some ⟨fab, fao, none⟩) ft.length fk) ft.length 2 (fcl ft), .rw (.slice (some ⟨tab, tao, none⟩) acts.length tk) acts.length 3 (acl acts)]) E18.out (by intro q hq; simp only [List.mem_cons, List.not_mem_nil, or_false] at hq ⊢; rcases hq with rfl | rfl | rfl | rfl | rfl <;> simp))
            go_wp2
            go_roundg (acts.length - (i + 1))
            case rel => exact ⟨i + 1, now, P9, lf ++ [(c : Int)], js2, ls, m, [(gs, 75, cs2)], cs2, some ⟨gs, 0, none⟩, pq, va, vj, vb, vk, vc, vm, rfl, by rw [HL9.out], EZ, Lib.hid ⟨by omega, by omega, by omega⟩, HI2, HS3⟩
            case measure => exact by omega
        · as_aux_lemma =>
            have t8 : decide ((P.length : Int) < (ft.length : Int)) = false := decide_eq_false (by omega)
            have t9 : decide (P.length < ft.length) = false := decide_eq_false hP
            have hcd : ((c : Int), d) = ((1 : Int), (0 : Int)) := by rw [← HF0.out, fate_no hP]
            obtain ⟨hc1, hd1⟩ := Prod.mk.inj hcd
            have HC1 := Lib.hid hc1
            have HD1 := Lib.hid hd1
            clear hcd hc1 hd1
            go_upto_region 17 with (fail)
            have E7 : Hid (EnvP D w ((wr.heap.size + 1, 72, [.int .i64 1, .int .i64 0]) :: (wr.heap.size, 70, [.int .u8 (kd : Nat), .int .u8 (tp : Nat), .int .u8 (bb : Nat)]) :: (g5, 64, [.int .i64 now, .slice na (SLn P now js (drS ft P.length)).L.length nj, .slice nb (SLn P now js (drS ft P.length)).ats.length nk, .slice nc (SLn P now js (drS ft P.length)).ft.length nm]) :: sg) [.ce tab (tao + i * 3) (.int .u8 (kd : Nat)), .ce tab (tao + i * 3 + 1) (.int .u8 (tp : Nat)), .ce tab (tao + i * 3 + 2) (.int .u8 (bb : Nat)), .ms (.slice na (SLn P now js (drS ft P.length)).L.length nj) (SLn P now js (drS ft P.length)).L, .rw (.slice nb (SLn P now js (drS ft P.length)).ats.length nk) (SLn P now js (drS ft P.length)).ats.length 1 (icl (SLn P now js (drS ft P.length)).ats), .rw (.slice nc (SLn P now js (drS ft P.length)).ft.length nm) (SLn P now js (drS ft P.length)).ft.length 2 (fcl (SLn P now js (drS ft P.length)).ft), .rw (.slice fa ft.length fk) ft.length 2 (fcl ft), .rw (.slice (some ⟨tab, tao, none⟩) acts.length tk) acts.length 3 (acl acts)] mb m ls _) := Lib.hid (((E6.out.push 70 [.int .u8 (kd : Nat), .int .u8 (tp : Nat), .int .u8 (bb : Nat)] (wr.heap.size) (by simp)).push 72 [.int .i64 1, .int .i64 0] (wr.heap.size + 1) (by simp)))
            clear u0 u1 u2 E6
            generalize (wr.alloc (.cells #[.int .u8 (kd : Nat), .int .u8 (tp : Nat), .int .u8 (bb : Nat)] 70)).alloc (.cells #[.int .i64 1, .int .i64 0] 72) = w4 at *
            have E8 : Hid (EnvP D w ((wr.heap.size + 1, 72, [.int .i64 (c : Nat), .int .i64 d]) :: (wr.heap.size, 70, [.int .u8 (kd : Nat), .int .u8 (tp : Nat), .int .u8 (bb : Nat)]) :: (g5, 64, [.int .i64 now, .slice na (SLn P now js (drS ft P.length)).L.length nj, .slice nb (SLn P now js (drS ft P.length)).ats.length nk, .slice nc (SLn P now js (drS ft P.length)).ft.length nm]) :: sg) [.ce tab (tao + i * 3) (.int .u8 (kd : Nat)), .ce tab (tao + i * 3 + 1) (.int .u8 (tp : Nat)), .ce tab (tao + i * 3 + 2) (.int .u8 (bb : Nat)), .ms (.slice na (SLn P now js (drS ft P.length)).L.length nj) (SLn P now js (drS ft P.length)).L, .rw (.slice nb (SLn P now js (drS ft P.length)).ats.length nk) (SLn P now js (drS ft P.length)).ats.length 1 (icl (SLn P now js (drS ft P.length)).ats), .rw (.slice nc (SLn P now js (drS ft P.length)).ft.length nm) (SLn P now js (drS ft P.length)).ft.length 2 (fcl (SLn P now js (drS ft P.length)).ft), .rw (.slice fa ft.length fk) ft.length 2 (fcl ft), .rw (.slice (some ⟨tab, tao, none⟩) acts.length tk) acts.length 3 (acl acts)] mb m ls _) := Lib.hid (by rw [HC1.out, HD1.out]; exact E7.out)
            clear E7
            clear hP
            have b1 := E8.out.bx 2 rfl
            have c1_0 := b1.cell 0 rfl
            have c1_1 := b1.cell 1 rfl
            have c1_2 := b1.cell 2 rfl
            have c1_3 := b1.cell 3 rfl
            clear b1
            have b2 := E8.out.bx 1 rfl
            have c2_2 := b2.cell 2 rfl
            clear b2
            have E9 : Hid (EnvP D w ((w4.heap.size, 5, [.int .u8 (bb : Nat)]) :: (wr.heap.size + 1, 72, [.int .i64 (c : Nat), .int .i64 d]) :: (wr.heap.size, 70, [.int .u8 (kd : Nat), .int .u8 (tp : Nat), .int .u8 (bb : Nat)]) :: (g5, 64, [.int .i64 now, .slice na (SLn P now js (drS ft P.length)).L.length nj, .slice nb (SLn P now js (drS ft P.length)).ats.length nk, .slice nc (SLn P now js (drS ft P.length)).ft.length nm]) :: sg) [.ce tab (tao + i * 3) (.int .u8 (kd : Nat)), .ce tab (tao + i * 3 + 1) (.int .u8 (tp : Nat)), .ce tab (tao + i * 3 + 2) (.int .u8 (bb : Nat)), .ms (.slice na (SLn P now js (drS ft P.length)).L.length nj) (SLn P now js (drS ft P.length)).L, .rw (.slice nb (SLn P now js (drS ft P.length)).ats.length nk) (SLn P now js (drS ft P.length)).ats.length 1 (icl (SLn P now js (drS ft P.length)).ats), .rw (.slice nc (SLn P now js (drS ft P.length)).ft.length nm) (SLn P now js (drS ft P.length)).ft.length 2 (fcl (SLn P now js (drS ft P.length)).ft), .rw (.slice fa ft.length fk) ft.length 2 (fcl ft), .rw (.slice (some ⟨tab, tao, none⟩) acts.length tk) acts.length 3 (acl acts)] mb m ls _) := Lib.hid ((E8.out.push 5 [.int .u8 (bb : Nat)] (w4.heap.size) (by simp)))
            have E10 : Hid (EnvP D w ((wr.heap.size + 1, 72, [.int .i64 (c : Nat), .int .i64 d]) :: (wr.heap.size, 70, [.int .u8 (kd : Nat), .int .u8 (tp : Nat), .int .u8 (bb : Nat)]) :: (g5, 64, [.int .i64 now, .slice na (SLn P now js (drS ft P.length)).L.length nj, .slice nb (SLn P now js (drS ft P.length)).ats.length nk, .slice nc (SLn P now js (drS ft P.length)).ft.length nm]) :: sg) [.bs (.slice (some ⟨w4.heap.size, 0, none⟩) 1 1) [bb], .ce tab (tao + i * 3) (.int .u8 (kd : Nat)), .ce tab (tao + i * 3 + 1) (.int .u8 (tp : Nat)), .ce tab (tao + i * 3 + 2) (.int .u8 (bb : Nat)), .ms (.slice na (SLn P now js (drS ft P.length)).L.length nj) (SLn P now js (drS ft P.length)).L, .rw (.slice nb (SLn P now js (drS ft P.length)).ats.length nk) (SLn P now js (drS ft P.length)).ats.length 1 (icl (SLn P now js (drS ft P.length)).ats), .rw (.slice nc (SLn P now js (drS ft P.length)).ft.length nm) (SLn P now js (drS ft P.length)).ft.length 2 (fcl (SLn P now js (drS ft P.length)).ft), .rw (.slice fa ft.length fk) ft.length 2 (fcl ft), .rw (.slice (some ⟨tab, tao, none⟩) acts.length tk) acts.length 3 (acl acts)] mb m ls _) := Lib.hid (E9.out.freeze8 b3)
            clear E9
            go_wp2_with fail
            refine (Send_sc HI.out HQ.out HP9.out (E10.out.fc 4 rfl) (E10.out.fc 5 rfl) (E10.out.fc 6 rfl) (E10.out.fc 0 rfl)).mono ?_
            rintro e w5 ⟨⟨va, vj, vb, vk, vc, vm, rfl, v1, v2, v3⟩, hb⟩
            have E11 : Hid (EnvP D w ((wr.heap.size + 1, 72, [.int .i64 (c : Nat), .int .i64 d]) :: (wr.heap.size, 70, [.int .u8 (kd : Nat), .int .u8 (tp : Nat), .int .u8 (bb : Nat)]) :: (g5, 64, [.int .i64 now, .slice na (SLn P now js (drS ft P.length)).L.length nj, .slice nb (SLn P now js (drS ft P.length)).ats.length nk, .slice nc (SLn P now js (drS ft P.length)).ft.length nm]) :: sg) [.rw (.slice vc (SLn P9 now js2 (drS ft P9.length)).ft.length vm) (SLn P9 now js2 (drS ft P9.length)).ft.length 2 (fcl (SLn P9 now js2 (drS ft P9.length)).ft), .rw (.slice vb (SLn P9 now js2 (drS ft P9.length)).ats.length vk) (SLn P9 now js2 (drS ft P9.length)).ats.length 1 (icl (SLn P9 now js2 (drS ft P9.length)).ats), .ms (.slice va (SLn P9 now js2 (drS ft P9.length)).L.length vj) (SLn P9 now js2 (drS ft P9.length)).L, .bs (.slice (some ⟨w4.heap.size, 0, none⟩) 1 1) [bb], .ce tab (tao + i * 3) (.int .u8 (kd : Nat)), .ce tab (tao + i * 3 + 1) (.int .u8 (tp : Nat)), .ce tab (tao + i * 3 + 2) (.int .u8 (bb : Nat)), .ms (.slice na (SLn P now js (drS ft P.length)).L.length nj) (SLn P now js (drS ft P.length)).L, .rw (.slice nb (SLn P now js (drS ft P.length)).ats.length nk) (SLn P now js (drS ft P.length)).ats.length 1 (icl (SLn P now js (drS ft P.length)).ats), .rw (.slice nc (SLn P now js (drS ft P.length)).ft.length nm) (SLn P now js (drS ft P.length)).ft.length 2 (fcl (SLn P now js (drS ft P.length)).ft), .rw (.slice fa ft.length fk) ft.length 2 (fcl ft), .rw (.slice (some ⟨tab, tao, none⟩) acts.length tk) acts.length 3 (acl acts)] mb m ls w5) := Lib.hid (E10.out.got (E10.out.got (E10.out.got (E10.out.below hb) (.ms (.slice va (SLn P9 now js2 (drS ft P9.length)).L.length vj) (SLn P9 now js2 (drS ft P9.length)).L) v1.out) (.rw (.slice vb (SLn P9 now js2 (drS ft P9.length)).ats.length vk) (SLn P9 now js2 (drS ft P9.length)).ats.length 1 (icl (SLn P9 now js2 (drS ft P9.length)).ats)) v2.out) (.rw (.slice vc (SLn P9 now js2 (drS ft P9.length)).ft.length vm) (SLn P9 now js2 (drS ft P9.length)).ft.length 2 (fcl (SLn P9 now js2 (drS ft P9.length)).ft)) v3.out)
            clear c1_0 c1_1 c1_2 c1_3 c2_2 E8 E10 hb v1 v2 v3
            have e5 : wrap64 (now + d) = now + d := IntWalk.wrap64_in _ (by omega)
            have E12 : Hid (EnvP D w ((w5.heap.size, 64, [.int .i64 now, .slice va (SLn P9 now js2 (drS ft P9.length)).L.length vj, .slice vb (SLn P9 now js2 (drS ft P9.length)).ats.length vk, .slice vc (SLn P9 now js2 (drS ft P9.length)).ft.length vm]) :: (wr.heap.size + 1, 72, [.int .i64 (c : Nat), .int .i64 d]) :: (wr.heap.size, 70, [.int .u8 (kd : Nat), .int .u8 (tp : Nat), .int .u8 (bb : Nat)]) :: (g5, 64, [.int .i64 now, .slice na (SLn P now js (drS ft P.length)).L.length nj, .slice nb (SLn P now js (drS ft P.length)).ats.length nk, .slice nc (SLn P now js (drS ft P.length)).ft.length nm]) :: sg) [.rw (.slice vc (SLn P9 now js2 (drS ft P9.length)).ft.length vm) (SLn P9 now js2 (drS ft P9.length)).ft.length 2 (fcl (SLn P9 now js2 (drS ft P9.length)).ft), .rw (.slice vb (SLn P9 now js2 (drS ft P9.length)).ats.length vk) (SLn P9 now js2 (drS ft P9.length)).ats.length 1 (icl (SLn P9 now js2 (drS ft P9.length)).ats), .ms (.slice va (SLn P9 now js2 (drS ft P9.length)).L.length vj) (SLn P9 now js2 (drS ft P9.length)).L, .bs (.slice (some ⟨w4.heap.size, 0, none⟩) 1 1) [bb], .ce tab (tao + i * 3) (.int .u8 (kd : Nat)), .ce tab (tao + i * 3 + 1) (.int .u8 (tp : Nat)), .ce tab (tao + i * 3 + 2) (.int .u8 (bb : Nat)), .ms (.slice na (SLn P now js (drS ft P.length)).L.length nj) (SLn P now js (drS ft P.length)).L, .rw (.slice nb (SLn P now js (drS ft P.length)).ats.length nk) (SLn P now js (drS ft P.length)).ats.length 1 (icl (SLn P now js (drS ft P.length)).ats), .rw (.slice nc (SLn P now js (drS ft P.length)).ft.length nm) (SLn P now js (drS ft P.length)).ft.length 2 (fcl (SLn P now js (drS ft P.length)).ft), .rw (.slice fa ft.length fk) ft.length 2 (fcl ft), .rw (.slice (some ⟨tab, tao, none⟩) acts.length tk) acts.length 3 (acl acts)] mb m ls _) := Lib.hid ((E11.out.push 64 [.int .i64 now, .slice va (SLn P9 now js2 (drS ft P9.length)).L.length vj, .slice vb (SLn P9 now js2 (drS ft P9.length)).ats.length vk, .slice vc (SLn P9 now js2 (drS ft P9.length)).ft.length vm] (w5.heap.size) (by simp)))
            have b3 := E12.out.bx 3 rfl
            have c3_0 := b3.cell 0 rfl
            clear b3
            have b4 := E12.out.bx 1 rfl
            have c4_1 := b4.cell 1 rfl
            clear b4
            have b5 := E12.out.bx 1 rfl
            have c5_0 := b5.cell 0 rfl
            clear b5
            have E13 : Hid (EnvP D w ((w5.heap.size + 1, 75, [.int .i64 (t : Nat), .int .i64 (now + d), .int .i64 (c : Nat)]) :: (w5.heap.size, 64, [.int .i64 now, .slice va (SLn P9 now js2 (drS ft P9.length)).L.length vj, .slice vb (SLn P9 now js2 (drS ft P9.length)).ats.length vk, .slice vc (SLn P9 now js2 (drS ft P9.length)).ft.length vm]) :: (wr.heap.size + 1, 72, [.int .i64 (c : Nat), .int .i64 d]) :: (wr.heap.size, 70, [.int .u8 (kd : Nat), .int .u8 (tp : Nat), .int .u8 (bb : Nat)]) :: (g5, 64, [.int .i64 now, .slice na (SLn P now js (drS ft P.length)).L.length nj, .slice nb (SLn P now js (drS ft P.length)).ats.length nk, .slice nc (SLn P now js (drS ft P.length)).ft.length nm]) :: sg) [.rw (.slice vc (SLn P9 now js2 (drS ft P9.length)).ft.length vm) (SLn P9 now js2 (drS ft P9.length)).ft.length 2 (fcl (SLn P9 now js2 (drS ft P9.length)).ft), .rw (.slice vb (SLn P9 now js2 (drS ft P9.length)).ats.length vk) (SLn P9 now js2 (drS ft P9.length)).ats.length 1 (icl (SLn P9 now js2 (drS ft P9.length)).ats), .ms (.slice va (SLn P9 now js2 (drS ft P9.length)).L.length vj) (SLn P9 now js2 (drS ft P9.length)).L, .bs (.slice (some ⟨w4.heap.size, 0, none⟩) 1 1) [bb], .ce tab (tao + i * 3) (.int .u8 (kd : Nat)), .ce tab (tao + i * 3 + 1) (.int .u8 (tp : Nat)), .ce tab (tao + i * 3 + 2) (.int .u8 (bb : Nat)), .ms (.slice na (SLn P now js (drS ft P.length)).L.length nj) (SLn P now js (drS ft P.length)).L, .rw (.slice nb (SLn P now js (drS ft P.length)).ats.length nk) (SLn P now js (drS ft P.length)).ats.length 1 (icl (SLn P now js (drS ft P.length)).ats), .rw (.slice nc (SLn P now js (drS ft P.length)).ft.length nm) (SLn P now js (drS ft P.length)).ft.length 2 (fcl (SLn P now js (drS ft P.length)).ft), .rw (.slice fa ft.length fk) ft.length 2 (fcl ft), .rw (.slice (some ⟨tab, tao, none⟩) acts.length tk) acts.length 3 (acl acts)] mb m ls _) := Lib.hid ((E12.out.push 75 [.int .i64 (t : Nat), .int .i64 (now + d), .int .i64 (c : Nat)] (w5.heap.size + 1) (by simp)))
            go_wp2_with (at_builtin; refine wpl_appP rfl _ _ rfl E13.out (A := [(w5.heap.size + 1, 75, [.int .i64 (t : Nat), .int .i64 (now + d), .int .i64 (c : Nat)]), (w5.heap.size, 64, [.int .i64 now, .slice va (SLn P9 now js2 (drS ft P9.length)).L.length vj, .slice vb (SLn P9 now js2 (drS ft P9.length)).ats.length vk, .slice vc (SLn P9 now js2 (drS ft P9.length)).ft.length vm]), (wr.heap.size + 1, 72, [.int .i64 (c : Nat), .int .i64 d]), (wr.heap.size, 70, [.int .u8 (kd : Nat), .int .u8 (tp : Nat), .int .u8 (bb : Nat)]), (g5, 64, [.int .i64 now, .slice na (SLn P now js (drS ft P.length)).L.length nj, .slice nb (SLn P now js (drS ft P.length)).ats.length nk, .slice nc (SLn P now js (drS ft P.length)).ft.length nm])]) (sg := sg) (B' := []) (F := ((w5.heap.size + 1, 75, [.int .i64 (t : Nat), .int .i64 (now + d), .int .i64 (c : Nat)]) :: (w5.heap.size, 64, [.int .i64 now, .slice va (SLn P9 now js2 (drS ft P9.length)).L.length vj, .slice vb (SLn P9 now js2 (drS ft P9.length)).ats.length vk, .slice vc (SLn P9 now js2 (drS ft P9.length)).ft.length vm]) :: (wr.heap.size + 1, 72, [.int .i64 (c : Nat), .int .i64 d]) :: (wr.heap.size, 70, [.int .u8 (kd : Nat), .int .u8 (tp : Nat), .int .u8 (bb : Nat)]) :: (g5, 64, [.int .i64 now, .slice na (SLn P now js (drS ft P.length)).L.length nj, .slice nb (SLn P now js (drS ft P.length)).ats.length nk, .slice nc (SLn P now js (drS ft P.length)).ft.length nm]) :: sg)) (by simp) HS.out rfl bb rfl (SrcN.snt (E13.out.bx 0 rfl)) (by omega) ?_)
            intro gs pq cs2 ws HS2 ES
            have E14 : Hid (EnvP D w ((w5.heap.size + 1, 75, [.int .i64 (t : Nat), .int .i64 (now + d), .int .i64 (c : Nat)]) :: (w5.heap.size, 64, [.int .i64 now, .slice va (SLn P9 now js2 (drS ft P9.length)).L.length vj, .slice vb (SLn P9 now js2 (drS ft P9.length)).ats.length vk, .slice vc (SLn P9 now js2 (drS ft P9.length)).ft.length vm]) :: (wr.heap.size + 1, 72, [.int .i64 (c : Nat), .int .i64 d]) :: (wr.heap.size, 70, [.int .u8 (kd : Nat), .int .u8 (tp : Nat), .int .u8 (bb : Nat)]) :: (g5, 64, [.int .i64 now, .slice na (SLn P now js (drS ft P.length)).L.length nj, .slice nb (SLn P now js (drS ft P.length)).ats.length nk, .slice nc (SLn P now js (drS ft P.length)).ft.length nm]) :: [(gs, 75, cs2)]) [.rw (.slice vc (SLn P9 now js2 (drS ft P9.length)).ft.length vm) (SLn P9 now js2 (drS ft P9.length)).ft.length 2 (fcl (SLn P9 now js2 (drS ft P9.length)).ft), .rw (.slice vb (SLn P9 now js2 (drS ft P9.length)).ats.length vk) (SLn P9 now js2 (drS ft P9.length)).ats.length 1 (icl (SLn P9 now js2 (drS ft P9.length)).ats), .ms (.slice va (SLn P9 now js2 (drS ft P9.length)).L.length vj) (SLn P9 now js2 (drS ft P9.length)).L, .bs (.slice (some ⟨w4.heap.size, 0, none⟩) 1 1) [bb], .ce tab (tao + i * 3) (.int .u8 (kd : Nat)), .ce tab (tao + i * 3 + 1) (.int .u8 (tp : Nat)), .ce tab (tao + i * 3 + 2) (.int .u8 (bb : Nat)), .ms (.slice na (SLn P now js (drS ft P.length)).L.length nj) (SLn P now js (drS ft P.length)).L, .rw (.slice nb (SLn P now js (drS ft P.length)).ats.length nk) (SLn P now js (drS ft P.length)).ats.length 1 (icl (SLn P now js (drS ft P.length)).ats), .rw (.slice nc (SLn P now js (drS ft P.length)).ft.length nm) (SLn P now js (drS ft P.length)).ft.length 2 (fcl (SLn P now js (drS ft P.length)).ft), .rw (.slice fa ft.length fk) ft.length 2 (fcl ft), .rw (.slice (some ⟨tab, tao, none⟩) acts.length tk) acts.length 3 (acl acts)] mb m ls ws) := Lib.hid (ES.out.cast (by simp))
            clear c3_0 c4_1 c5_0 E11 E12 E13 ES
            have b6 := E14.out.bx 1 rfl
            have c6_0 := b6.cell 0 rfl
            have c6_1 := b6.cell 1 rfl
            have c6_2 := b6.cell 2 rfl
            have c6_3 := b6.cell 3 rfl
            clear b6
            have b7 := E14.out.bx 4 rfl
            have c7_0 := b7.cell 0 rfl
            have c7_1 := b7.cell 1 rfl
            have c7_2 := b7.cell 2 rfl
            have c7_3 := b7.cell 3 rfl
            have f7_0 := b7.frozen 0
            have f7_1 := b7.frozen 1
            have f7_2 := b7.frozen 2
            have f7_3 := b7.frozen 3
            clear b7
            go_wp2_with fail
            have E15 : Hid (EnvP D w ((w5.heap.size + 1, 75, [.int .i64 (t : Nat), .int .i64 (now + d), .int .i64 (c : Nat)]) :: (w5.heap.size, 64, [.int .i64 now, .slice va (SLn P9 now js2 (drS ft P9.length)).L.length vj, .slice vb (SLn P9 now js2 (drS ft P9.length)).ats.length vk, .slice vc (SLn P9 now js2 (drS ft P9.length)).ft.length vm]) :: (wr.heap.size + 1, 72, [.int .i64 (c : Nat), .int .i64 d]) :: (wr.heap.size, 70, [.int .u8 (kd : Nat), .int .u8 (tp : Nat), .int .u8 (bb : Nat)]) :: (g5, 64, [.int .i64 now, .slice va (SLn P9 now js2 (drS ft P9.length)).L.length vj, .slice vb (SLn P9 now js2 (drS ft P9.length)).ats.length vk, .slice vc (SLn P9 now js2 (drS ft P9.length)).ft.length vm]) :: [(gs, 75, cs2)]) [.rw (.slice vc (SLn P9 now js2 (drS ft P9.length)).ft.length vm) (SLn P9 now js2 (drS ft P9.length)).ft.length 2 (fcl (SLn P9 now js2 (drS ft P9.length)).ft), .rw (.slice vb (SLn P9 now js2 (drS ft P9.length)).ats.length vk) (SLn P9 now js2 (drS ft P9.length)).ats.length 1 (icl (SLn P9 now js2 (drS ft P9.length)).ats), .ms (.slice va (SLn P9 now js2 (drS ft P9.length)).L.length vj) (SLn P9 now js2 (drS ft P9.length)).L, .bs (.slice (some ⟨w4.heap.size, 0, none⟩) 1 1) [bb], .ce tab (tao + i * 3) (.int .u8 (kd : Nat)), .ce tab (tao + i * 3 + 1) (.int .u8 (tp : Nat)), .ce tab (tao + i * 3 + 2) (.int .u8 (bb : Nat)), .ms (.slice na (SLn P now js (drS ft P.length)).L.length nj) (SLn P now js (drS ft P.length)).L, .rw (.slice nb (SLn P now js (drS ft P.length)).ats.length nk) (SLn P now js (drS ft P.length)).ats.length 1 (icl (SLn P now js (drS ft P.length)).ats), .rw (.slice nc (SLn P now js (drS ft P.length)).ft.length nm) (SLn P now js (drS ft P.length)).ft.length 2 (fcl (SLn P now js (drS ft P.length)).ft), .rw (.slice fa ft.length fk) ft.length 2 (fcl ft), .rw (.slice (some ⟨tab, tao, none⟩) acts.length tk) acts.length 3 (acl acts)] mb m ls _) := Lib.hid (((((E14.out.set 4 0 (.int .i64 now) rfl).set 4 1 (.slice va (SLn P9 now js2 (drS ft P9.length)).L.length vj) rfl).set 4 2 (.slice vb (SLn P9 now js2 (drS ft P9.length)).ats.length vk) rfl).set 4 3 (.slice vc (SLn P9 now js2 (drS ft P9.length)).ft.length vm) rfl))
            refine (Valid_sc HI2.out (E15.out.fc 2 rfl) (E15.out.fc 1 rfl) (E15.out.fc 0 rfl)).mono ?_
            rintro e w6 ⟨rfl, hb⟩
            have E16 : Hid (EnvP D w ((w5.heap.size + 1, 75, [.int .i64 (t : Nat), .int .i64 (now + d), .int .i64 (c : Nat)]) :: (w5.heap.size, 64, [.int .i64 now, .slice va (SLn P9 now js2 (drS ft P9.length)).L.length vj, .slice vb (SLn P9 now js2 (drS ft P9.length)).ats.length vk, .slice vc (SLn P9 now js2 (drS ft P9.length)).ft.length vm]) :: (wr.heap.size + 1, 72, [.int .i64 (c : Nat), .int .i64 d]) :: (wr.heap.size, 70, [.int .u8 (kd : Nat), .int .u8 (tp : Nat), .int .u8 (bb : Nat)]) :: (g5, 64, [.int .i64 now, .slice va (SLn P9 now js2 (drS ft P9.length)).L.length vj, .slice vb (SLn P9 now js2 (drS ft P9.length)).ats.length vk, .slice vc (SLn P9 now js2 (drS ft P9.length)).ft.length vm]) :: [(gs, 75, cs2)]) [.rw (.slice vc (SLn P9 now js2 (drS ft P9.length)).ft.length vm) (SLn P9 now js2 (drS ft P9.length)).ft.length 2 (fcl (SLn P9 now js2 (drS ft P9.length)).ft), .rw (.slice vb (SLn P9 now js2 (drS ft P9.length)).ats.length vk) (SLn P9 now js2 (drS ft P9.length)).ats.length 1 (icl (SLn P9 now js2 (drS ft P9.length)).ats), .ms (.slice va (SLn P9 now js2 (drS ft P9.length)).L.length vj) (SLn P9 now js2 (drS ft P9.length)).L, .bs (.slice (some ⟨w4.heap.size, 0, none⟩) 1 1) [bb], .ce tab (tao + i * 3) (.int .u8 (kd : Nat)), .ce tab (tao + i * 3 + 1) (.int .u8 (tp : Nat)), .ce tab (tao + i * 3 + 2) (.int .u8 (bb : Nat)), .ms (.slice na (SLn P now js (drS ft P.length)).L.length nj) (SLn P now js (drS ft P.length)).L, .rw (.slice nb (SLn P now js (drS ft P.length)).ats.length nk) (SLn P now js (drS ft P.length)).ats.length 1 (icl (SLn P now js (drS ft P.length)).ats), .rw (.slice nc (SLn P now js (drS ft P.length)).ft.length nm) (SLn P now js (drS ft P.length)).ft.length 2 (fcl (SLn P now js (drS ft P.length)).ft), .rw (.slice fa ft.length fk) ft.length 2 (fcl ft), .rw (.slice (some ⟨tab, tao, none⟩) acts.length tk) acts.length 3 (acl acts)] mb m ls w6) := Lib.hid (E15.out.below hb)
            clear c6_0 c6_1 c6_2 c6_3 c7_0 c7_1 c7_2 c7_3 f7_0 f7_1 f7_2 f7_3 E14 E15 hb
            have HS3 : Hid (SS [(gs, 75, cs2)] cs2 (.slice (some ⟨gs, 0, none⟩) P9.length pq) P9 (lf ++ [(c : Int)])) := Lib.hid (by have h := HS2.out; rw [← HP9.out, ← HL9.out] at h; exact h)
            have EZ := Lib.hid (EnvP.keep (A := [(w5.heap.size + 1, 75, [.int .i64 (t : Nat), .int .i64 (now + d), .int .i64 (c : Nat)]), (w5.heap.size, 64, [.int .i64 now, .slice va (SLn P9 now js2 (drS ft P9.length)).L.length vj, .slice vb (SLn P9 now js2 (drS ft P9.length)).ats.length vk, .slice vc (SLn P9 now js2 (drS ft P9.length)).ft.length vm]), (wr.heap.size + 1, 72, [.int .i64 (c : Nat), .int .i64 d]), (wr.heap.size, 70, [.int .u8 (kd : Nat), .int .u8 (tp : Nat), .int .u8 (bb : Nat)])]) (G' := [.ms (.slice va (SLn P9 now js2 (drS ft P9.length)).L.length vj) (SLn P9 now js2 (drS ft P9.length)).L, .rw (.slice vb (SLn P9 now js2 (drS ft P9.length)).ats.length vk) (SLn P9 now js2 (drS ft P9.length)).ats.length 1 (icl (SLn P9 now js2 (drS ft P9.length)).ats), .rw (.slice vc (SLn P9 now js2 (drS ft P9.length)).ft.length vm) (SLn P9 now js2 (drS ft P9.length)).ft.length 2 (fcl (SLn P9 now js2 (drS ft P9.length)).ft), .rw (.slice fa ft.length fk) ft.length 2 (fcl ft), .rw (.slice (some ⟨tab, tao, none⟩) acts.length tk) acts.length 3 (acl acts)]) E16.out (by intro q hq; simp only [List.mem_cons, List.not_mem_nil, or_false] at hq ⊢; rcases hq with rfl | rfl | rfl | rfl | rfl <;> simp))
            go_wp2
            go_roundg (acts.length - (i + 1))
            case rel => exact ⟨i + 1, now, P9, lf ++ [(c : Int)], js2, ls, m, [(gs, 75, cs2)], cs2, some ⟨gs, 0, none⟩, pq, va, vj, vb, vk, vc, vm, rfl, by rw [HL9.out], EZ, Lib.hid ⟨by omega, by omega, by omega⟩, HI2, HS3⟩
            case measure => exact by omega
    · as_aux_lemma =>
        have e2 : (kd : Int) % 3 = 1 := by omega
        have e2n : kd % 3 = 1 := hk3.symm
        have HK3 := Lib.hid hk3
        clear hk3
        rcases first_or (SLn P now js (ft.drop P.length)) (t : Int) with ⟨f, hf, hfi, har⟩ | ⟨hfn, hno⟩
        rotate_left
        · as_aux_lemma =>
            have HN := Lib.hid hfn
            have HW : Hid (wcnt (SLn P now js (drS ft P.length)) (t : Int) (SLn P now js (drS ft P.length)).L.length = 0) := Lib.hid (wcnt_zero hno _)
            have HI2 := Lib.hid HI.out.mono
            clear hfn hno
            have E7 : Hid (EnvP D w ((wr.heap.size, 70, [.int .u8 (kd : Nat), .int .u8 (tp : Nat), .int .u8 (bb : Nat)]) :: (g5, 64, [.int .i64 now, .slice na (SLn P now js (drS ft P.length)).L.length nj, .slice nb (SLn P now js (drS ft P.length)).ats.length nk, .slice nc (SLn P now js (drS ft P.length)).ft.length nm]) :: sg) [.ce tab (tao + i * 3) (.int .u8 (kd : Nat)), .ce tab (tao + i * 3 + 1) (.int .u8 (tp : Nat)), .ce tab (tao + i * 3 + 2) (.int .u8 (bb : Nat)), .ms (.slice na (SLn P now js (drS ft P.length)).L.length nj) (SLn P now js (drS ft P.length)).L, .rw (.slice nb (SLn P now js (drS ft P.length)).ats.length nk) (SLn P now js (drS ft P.length)).ats.length 1 (icl (SLn P now js (drS ft P.length)).ats), .rw (.slice nc (SLn P now js (drS ft P.length)).ft.length nm) (SLn P now js (drS ft P.length)).ft.length 2 (fcl (SLn P now js (drS ft P.length)).ft), .rw (.slice fa ft.length fk) ft.length 2 (fcl ft), .rw (.slice (some ⟨tab, tao, none⟩) acts.length tk) acts.length 3 (acl acts)] mb m ls _) := Lib.hid ((E6.out.push 70 [.int .u8 (kd : Nat), .int .u8 (tp : Nat), .int .u8 (bb : Nat)] (wr.heap.size) (by simp)))
            have b1 := E7.out.bx 1 rfl
            have c1_0 := b1.cell 0 rfl
            have c1_1 := b1.cell 1 rfl
            have c1_2 := b1.cell 2 rfl
            have c1_3 := b1.cell 3 rfl
            clear b1
            go_wp2_with fail
            refine (Waiting_sc HI.out HW.out (E7.out.fc 3 rfl) (E7.out.fc 4 rfl) (E7.out.fc 5 rfl)).mono ?_
            rintro e w4 ⟨rfl, hb⟩
            have E8 : Hid (EnvP D w ((wr.heap.size, 70, [.int .u8 (kd : Nat), .int .u8 (tp : Nat), .int .u8 (bb : Nat)]) :: (g5, 64, [.int .i64 now, .slice na (SLn P now js (drS ft P.length)).L.length nj, .slice nb (SLn P now js (drS ft P.length)).ats.length nk, .slice nc (SLn P now js (drS ft P.length)).ft.length nm]) :: sg) [.ce tab (tao + i * 3) (.int .u8 (kd : Nat)), .ce tab (tao + i * 3 + 1) (.int .u8 (tp : Nat)), .ce tab (tao + i * 3 + 2) (.int .u8 (bb : Nat)), .ms (.slice na (SLn P now js (drS ft P.length)).L.length nj) (SLn P now js (drS ft P.length)).L, .rw (.slice nb (SLn P now js (drS ft P.length)).ats.length nk) (SLn P now js (drS ft P.length)).ats.length 1 (icl (SLn P now js (drS ft P.length)).ats), .rw (.slice nc (SLn P now js (drS ft P.length)).ft.length nm) (SLn P now js (drS ft P.length)).ft.length 2 (fcl (SLn P now js (drS ft P.length)).ft), .rw (.slice fa ft.length fk) ft.length 2 (fcl ft), .rw (.slice (some ⟨tab, tao, none⟩) acts.length tk) acts.length 3 (acl acts)] mb m ls w4) := Lib.hid (E7.out.below hb)
            clear u0 u1 u2 c1_0 c1_1 c1_2 c1_3 E6 E7 hb
            have b2 := E8.out.bx 1 rfl
            have c2_0 := b2.cell 0 rfl
            have c2_1 := b2.cell 1 rfl
            have c2_2 := b2.cell 2 rfl
            have c2_3 := b2.cell 3 rfl
            clear b2
            go_wp2_with fail
            refine (Receive_none_sc HI.out HN.out (E8.out.fc 3 rfl) (E8.out.fc 4 rfl) (E8.out.fc 5 rfl)).mono ?_
            rintro e w5 ⟨⟨yv, yo, yq, rfl, ⟨ya, yj, yb, yk, yc, ym, rfl, y1, y2, y3⟩, y4⟩, hb⟩
            have E9 : Hid (EnvP D w ((wr.heap.size, 70, [.int .u8 (kd : Nat), .int .u8 (tp : Nat), .int .u8 (bb : Nat)]) :: (g5, 64, [.int .i64 now, .slice na (SLn P now js (drS ft P.length)).L.length nj, .slice nb (SLn P now js (drS ft P.length)).ats.length nk, .slice nc (SLn P now js (drS ft P.length)).ft.length nm]) :: sg) [.bs (.slice yo (M0).body.length yq) (M0).body, .rw (.slice yc (L0).ft.length ym) (L0).ft.length 2 (fcl (L0).ft), .rw (.slice yb (L0).ats.length yk) (L0).ats.length 1 (icl (L0).ats), .ms (.slice ya (L0).L.length yj) (L0).L, .ce tab (tao + i * 3) (.int .u8 (kd : Nat)), .ce tab (tao + i * 3 + 1) (.int .u8 (tp : Nat)), .ce tab (tao + i * 3 + 2) (.int .u8 (bb : Nat)), .ms (.slice na (SLn P now js (drS ft P.length)).L.length nj) (SLn P now js (drS ft P.length)).L, .rw (.slice nb (SLn P now js (drS ft P.length)).ats.length nk) (SLn P now js (drS ft P.length)).ats.length 1 (icl (SLn P now js (drS ft P.length)).ats), .rw (.slice nc (SLn P now js (drS ft P.length)).ft.length nm) (SLn P now js (drS ft P.length)).ft.length 2 (fcl (SLn P now js (drS ft P.length)).ft), .rw (.slice fa ft.length fk) ft.length 2 (fcl ft), .rw (.slice (some ⟨tab, tao, none⟩) acts.length tk) acts.length 3 (acl acts)] mb m ls w5) := Lib.hid (E8.out.got (E8.out.got (E8.out.got (E8.out.got (E8.out.below hb) (.ms (.slice ya (L0).L.length yj) (L0).L) y1.out) (.rw (.slice yb (L0).ats.length yk) (L0).ats.length 1 (icl (L0).ats)) y2.out) (.rw (.slice yc (L0).ft.length ym) (L0).ft.length 2 (fcl (L0).ft)) y3.out) (.bs (.slice yo (M0).body.length yq) (M0).body) y4.out)
            clear c2_0 c2_1 c2_2 c2_3 E8 hb y1 y2 y3 y4
            have E10 : Hid (EnvP D w ((w5.heap.size + 1, 24, [.int .i64 M0.fr, .int .i64 M0.to_, .int .i64 M0.kd, .int .i64 M0.nm, .slice yo (M0).body.length yq]) :: (w5.heap.size, 64, [.int .i64 (L0).nw, .slice ya (L0).L.length yj, .slice yb (L0).ats.length yk, .slice yc (L0).ft.length ym]) :: (wr.heap.size, 70, [.int .u8 (kd : Nat), .int .u8 (tp : Nat), .int .u8 (bb : Nat)]) :: (g5, 64, [.int .i64 now, .slice na (SLn P now js (drS ft P.length)).L.length nj, .slice nb (SLn P now js (drS ft P.length)).ats.length nk, .slice nc (SLn P now js (drS ft P.length)).ft.length nm]) :: sg) [.bs (.slice yo (M0).body.length yq) (M0).body, .rw (.slice yc (L0).ft.length ym) (L0).ft.length 2 (fcl (L0).ft), .rw (.slice yb (L0).ats.length yk) (L0).ats.length 1 (icl (L0).ats), .ms (.slice ya (L0).L.length yj) (L0).L, .ce tab (tao + i * 3) (.int .u8 (kd : Nat)), .ce tab (tao + i * 3 + 1) (.int .u8 (tp : Nat)), .ce tab (tao + i * 3 + 2) (.int .u8 (bb : Nat)), .ms (.slice na (SLn P now js (drS ft P.length)).L.length nj) (SLn P now js (drS ft P.length)).L, .rw (.slice nb (SLn P now js (drS ft P.length)).ats.length nk) (SLn P now js (drS ft P.length)).ats.length 1 (icl (SLn P now js (drS ft P.length)).ats), .rw (.slice nc (SLn P now js (drS ft P.length)).ft.length nm) (SLn P now js (drS ft P.length)).ft.length 2 (fcl (SLn P now js (drS ft P.length)).ft), .rw (.slice fa ft.length fk) ft.length 2 (fcl ft), .rw (.slice (some ⟨tab, tao, none⟩) acts.length tk) acts.length 3 (acl acts)] mb m ls _) := Lib.hid (((E9.out.push 64 [.int .i64 (L0).nw, .slice ya (L0).L.length yj, .slice yb (L0).ats.length yk, .slice yc (L0).ft.length ym] (w5.heap.size) (by simp)).push 24 [.int .i64 M0.fr, .int .i64 M0.to_, .int .i64 M0.kd, .int .i64 M0.nm, .slice yo (M0).body.length yq] (w5.heap.size + 1) (by simp)))
            have EZ := Lib.hid (EnvP.keep (A := [(w5.heap.size + 1, 24, [.int .i64 M0.fr, .int .i64 M0.to_, .int .i64 M0.kd, .int .i64 M0.nm, .slice yo (M0).body.length yq]), (w5.heap.size, 64, [.int .i64 (L0).nw, .slice ya (L0).L.length yj, .slice yb (L0).ats.length yk, .slice yc (L0).ft.length ym]), (wr.heap.size, 70, [.int .u8 (kd : Nat), .int .u8 (tp : Nat), .int .u8 (bb : Nat)])]) (G' := [.ms (.slice na (SLn P now js (drS ft P.length)).L.length nj) (SLn P now js (drS ft P.length)).L, .rw (.slice nb (SLn P now js (drS ft P.length)).ats.length nk) (SLn P now js (drS ft P.length)).ats.length 1 (icl (SLn P now js (drS ft P.length)).ats), .rw (.slice nc (SLn P now js (drS ft P.length)).ft.length nm) (SLn P now js (drS ft P.length)).ft.length 2 (fcl (SLn P now js (drS ft P.length)).ft), .rw (.slice fa ft.length fk) ft.length 2 (fcl ft), .rw (.slice (some ⟨tab, tao, none⟩) acts.length tk) acts.length 3 (acl acts)]) E10.out (by intro q hq; simp only [List.mem_cons, List.not_mem_nil, or_false] at hq ⊢; rcases hq with rfl | rfl | rfl | rfl | rfl <;> simp))
            go_wp2
            go_roundg (acts.length - (i + 1))
            case rel => exact ⟨i + 1, now, P, lf, js, ls, m, sg, cs, pa, pk, na, nj, nb, nk, nc, nm, rfl, rfl, EZ, Lib.hid ⟨by omega, by omega, by omega⟩, HI2, HS⟩
            case measure => exact by omega
        obtain ⟨j, hj, hjP, hfj, hm, htj, haj, hl1, hl3, hls, hrq, hI2⟩ := HI.out.recv hfi har
        obtain ⟨wc, hwc⟩ : ∃ wc, wcnt (SLn P now js (drS ft P.length)) (t : Int) (SLn P now js (drS ft P.length)).L.length = wc := ⟨_, rfl⟩
        have hw1 : 1 ≤ wc := by rw [← hwc]; exact wcnt_pos har _ hf
        have HM := Lib.hid hm
        have HTJ := Lib.hid htj
        have HLS := Lib.hid hls
        have HRQ := Lib.hid hrq
        have HI2 := Lib.hid hI2
        have HWC := Lib.hid hwc
        have HFI := Lib.hid hfi
        clear hm htj hls hrq hI2 hwc hfi har hf
        have E7 : Hid (EnvP D w ((wr.heap.size, 70, [.int .u8 (kd : Nat), .int .u8 (tp : Nat), .int .u8 (bb : Nat)]) :: (g5, 64, [.int .i64 now, .slice na (SLn P now js (drS ft P.length)).L.length nj, .slice nb (SLn P now js (drS ft P.length)).ats.length nk, .slice nc (SLn P now js (drS ft P.length)).ft.length nm]) :: sg) [.ce tab (tao + i * 3) (.int .u8 (kd : Nat)), .ce tab (tao + i * 3 + 1) (.int .u8 (tp : Nat)), .ce tab (tao + i * 3 + 2) (.int .u8 (bb : Nat)), .ms (.slice na (SLn P now js (drS ft P.length)).L.length nj) (SLn P now js (drS ft P.length)).L, .rw (.slice nb (SLn P now js (drS ft P.length)).ats.length nk) (SLn P now js (drS ft P.length)).ats.length 1 (icl (SLn P now js (drS ft P.length)).ats), .rw (.slice nc (SLn P now js (drS ft P.length)).ft.length nm) (SLn P now js (drS ft P.length)).ft.length 2 (fcl (SLn P now js (drS ft P.length)).ft), .rw (.slice fa ft.length fk) ft.length 2 (fcl ft), .rw (.slice (some ⟨tab, tao, none⟩) acts.length tk) acts.length 3 (acl acts)] mb m ls _) := Lib.hid ((E6.out.push 70 [.int .u8 (kd : Nat), .int .u8 (tp : Nat), .int .u8 (bb : Nat)] (wr.heap.size) (by simp)))
        have b1 := E7.out.bx 1 rfl
        have c1_0 := b1.cell 0 rfl
        have c1_1 := b1.cell 1 rfl
        have c1_2 := b1.cell 2 rfl
        have c1_3 := b1.cell 3 rfl
        clear b1
        go_wp2_with fail
        refine (Waiting_sc HI.out HWC.out (E7.out.fc 3 rfl) (E7.out.fc 4 rfl) (E7.out.fc 5 rfl)).mono ?_
        rintro e w4 ⟨rfl, hb⟩
        have E8 : Hid (EnvP D w ((wr.heap.size, 70, [.int .u8 (kd : Nat), .int .u8 (tp : Nat), .int .u8 (bb : Nat)]) :: (g5, 64, [.int .i64 now, .slice na (SLn P now js (drS ft P.length)).L.length nj, .slice nb (SLn P now js (drS ft P.length)).ats.length nk, .slice nc (SLn P now js (drS ft P.length)).ft.length nm]) :: sg) [.ce tab (tao + i * 3) (.int .u8 (kd : Nat)), .ce tab (tao + i * 3 + 1) (.int .u8 (tp : Nat)), .ce tab (tao + i * 3 + 2) (.int .u8 (bb : Nat)), .ms (.slice na (SLn P now js (drS ft P.length)).L.length nj) (SLn P now js (drS ft P.length)).L, .rw (.slice nb (SLn P now js (drS ft P.length)).ats.length nk) (SLn P now js (drS ft P.length)).ats.length 1 (icl (SLn P now js (drS ft P.length)).ats), .rw (.slice nc (SLn P now js (drS ft P.length)).ft.length nm) (SLn P now js (drS ft P.length)).ft.length 2 (fcl (SLn P now js (drS ft P.length)).ft), .rw (.slice fa ft.length fk) ft.length 2 (fcl ft), .rw (.slice (some ⟨tab, tao, none⟩) acts.length tk) acts.length 3 (acl acts)] mb m ls w4) := Lib.hid (E7.out.below hb)
        clear u0 u1 u2 c1_0 c1_1 c1_2 c1_3 E6 E7 hb
        have b2 := E8.out.bx 1 rfl
        have c2_0 := b2.cell 0 rfl
        have c2_1 := b2.cell 1 rfl
        have c2_2 := b2.cell 2 rfl
        have c2_3 := b2.cell 3 rfl
        clear b2
        go_wp2_with fail
        refine (Receive_sc HI.out HFI.out hfj HM.out HTJ.out HRQ.out (E8.out.fc 3 rfl) (E8.out.fc 4 rfl) (E8.out.fc 5 rfl)).mono ?_
        rintro e w5 ⟨⟨va, vj, vb, vk, vc, vm, vo, vq, rfl, v1, v2, v3, v4⟩, hb⟩
        have E9 : Hid (EnvP D w ((wr.heap.size, 70, [.int .u8 (kd : Nat), .int .u8 (tp : Nat), .int .u8 (bb : Nat)]) :: (g5, 64, [.int .i64 now, .slice na (SLn P now js (drS ft P.length)).L.length nj, .slice nb (SLn P now js (drS ft P.length)).ats.length nk, .slice nc (SLn P now js (drS ft P.length)).ft.length nm]) :: sg) [.bs (.slice vo 1 vq) [byS P j], .rw (.slice vc (SLn P now (js.eraseIdx f) (drS ft P.length)).ft.length vm) (SLn P now (js.eraseIdx f) (drS ft P.length)).ft.length 2 (fcl (SLn P now (js.eraseIdx f) (drS ft P.length)).ft), .rw (.slice vb (SLn P now (js.eraseIdx f) (drS ft P.length)).ats.length vk) (SLn P now (js.eraseIdx f) (drS ft P.length)).ats.length 1 (icl (SLn P now (js.eraseIdx f) (drS ft P.length)).ats), .ms (.slice va (SLn P now (js.eraseIdx f) (drS ft P.length)).L.length vj) (SLn P now (js.eraseIdx f) (drS ft P.length)).L, .ce tab (tao + i * 3) (.int .u8 (kd : Nat)), .ce tab (tao + i * 3 + 1) (.int .u8 (tp : Nat)), .ce tab (tao + i * 3 + 2) (.int .u8 (bb : Nat)), .ms (.slice na (SLn P now js (drS ft P.length)).L.length nj) (SLn P now js (drS ft P.length)).L, .rw (.slice nb (SLn P now js (drS ft P.length)).ats.length nk) (SLn P now js (drS ft P.length)).ats.length 1 (icl (SLn P now js (drS ft P.length)).ats), .rw (.slice nc (SLn P now js (drS ft P.length)).ft.length nm) (SLn P now js (drS ft P.length)).ft.length 2 (fcl (SLn P now js (drS ft P.length)).ft), .rw (.slice fa ft.length fk) ft.length 2 (fcl ft), .rw (.slice (some ⟨tab, tao, none⟩) acts.length tk) acts.length 3 (acl acts)] mb m ls w5) := Lib.hid (E8.out.got (E8.out.got (E8.out.got (E8.out.got (E8.out.below hb) (.ms (.slice va (SLn P now (js.eraseIdx f) (drS ft P.length)).L.length vj) (SLn P now (js.eraseIdx f) (drS ft P.length)).L) v1.out) (.rw (.slice vb (SLn P now (js.eraseIdx f) (drS ft P.length)).ats.length vk) (SLn P now (js.eraseIdx f) (drS ft P.length)).ats.length 1 (icl (SLn P now (js.eraseIdx f) (drS ft P.length)).ats)) v2.out) (.rw (.slice vc (SLn P now (js.eraseIdx f) (drS ft P.length)).ft.length vm) (SLn P now (js.eraseIdx f) (drS ft P.length)).ft.length 2 (fcl (SLn P now (js.eraseIdx f) (drS ft P.length)).ft)) v3.out) (.bs (.slice vo 1 vq) [byS P j]) v4.out)
        clear c2_0 c2_1 c2_2 c2_3 E8 hb v1 v2 v3 v4
        have u1 : decide ((wc : Int) < (1 : Int)) = false := decide_eq_false (by omega)
        have u1n : decide (wc < 1) = false := decide_eq_false (by omega)
        have u2 : decide ((j : Int) < 0) = false := decide_eq_false (by omega)
        have u3 : decide ((P.length : Int) ≤ (j : Int)) = false := decide_eq_false (by omega)
        have u3n : decide (P.length ≤ j) = false := decide_eq_false (by omega)
        have hjI : (j : Int) < (P.length : Int) := by omega
        go_upto_region 30 with (fail)
        have E10 : Hid (EnvP D w ((w5.heap.size + 1, 24, [.int .i64 0, .int .i64 (t : Nat), .int .i64 0, .int .i64 (j : Nat), .slice vo 1 vq]) :: (w5.heap.size, 64, [.int .i64 now, .slice va (SLn P now (js.eraseIdx f) (drS ft P.length)).L.length vj, .slice vb (SLn P now (js.eraseIdx f) (drS ft P.length)).ats.length vk, .slice vc (SLn P now (js.eraseIdx f) (drS ft P.length)).ft.length vm]) :: (wr.heap.size, 70, [.int .u8 (kd : Nat), .int .u8 (tp : Nat), .int .u8 (bb : Nat)]) :: (g5, 64, [.int .i64 now, .slice na (SLn P now js (drS ft P.length)).L.length nj, .slice nb (SLn P now js (drS ft P.length)).ats.length nk, .slice nc (SLn P now js (drS ft P.length)).ft.length nm]) :: sg) [.bs (.slice vo 1 vq) [byS P j], .rw (.slice vc (SLn P now (js.eraseIdx f) (drS ft P.length)).ft.length vm) (SLn P now (js.eraseIdx f) (drS ft P.length)).ft.length 2 (fcl (SLn P now (js.eraseIdx f) (drS ft P.length)).ft), .rw (.slice vb (SLn P now (js.eraseIdx f) (drS ft P.length)).ats.length vk) (SLn P now (js.eraseIdx f) (drS ft P.length)).ats.length 1 (icl (SLn P now (js.eraseIdx f) (drS ft P.length)).ats), .ms (.slice va (SLn P now (js.eraseIdx f) (drS ft P.length)).L.length vj) (SLn P now (js.eraseIdx f) (drS ft P.length)).L, .ce tab (tao + i * 3) (.int .u8 (kd : Nat)), .ce tab (tao + i * 3 + 1) (.int .u8 (tp : Nat)), .ce tab (tao + i * 3 + 2) (.int .u8 (bb : Nat)), .ms (.slice na (SLn P now js (drS ft P.length)).L.length nj) (SLn P now js (drS ft P.length)).L, .rw (.slice nb (SLn P now js (drS ft P.length)).ats.length nk) (SLn P now js (drS ft P.length)).ats.length 1 (icl (SLn P now js (drS ft P.length)).ats), .rw (.slice nc (SLn P now js (drS ft P.length)).ft.length nm) (SLn P now js (drS ft P.length)).ft.length 2 (fcl (SLn P now js (drS ft P.length)).ft), .rw (.slice fa ft.length fk) ft.length 2 (fcl ft), .rw (.slice (some ⟨tab, tao, none⟩) acts.length tk) acts.length 3 (acl acts)] mb m ls _) := Lib.hid (((E9.out.push 64 [.int .i64 now, .slice va (SLn P now (js.eraseIdx f) (drS ft P.length)).L.length vj, .slice vb (SLn P now (js.eraseIdx f) (drS ft P.length)).ats.length vk, .slice vc (SLn P now (js.eraseIdx f) (drS ft P.length)).ft.length vm] (w5.heap.size) (by simp)).push 24 [.int .i64 0, .int .i64 (t : Nat), .int .i64 0, .int .i64 (j : Nat), .slice vo 1 vq] (w5.heap.size + 1) (by simp)))
        obtain ⟨gs, rfl, rfl⟩ := HS.out.box (by omega)
        obtain ⟨x1, x2, x3⟩ := HS.out.cells hj
        rw [HTJ.out] at x1
        obtain ⟨aj, haj2⟩ : ∃ aj, atS P j = aj := ⟨_, rfl⟩
        obtain ⟨lj, hlj⟩ : ∃ lj, lf[j] = lj := ⟨_, rfl⟩
        rw [haj2] at x2 haj; rw [hlj] at x3 hl1 hl3
        have X1 := Lib.hid x1
        have X2 := Lib.hid x2
        have X3 := Lib.hid x3
        have HAJ := Lib.hid haj2
        have HLJ := Lib.hid hlj
        clear x1 x2 x3 haj2 hlj
        have b3 := E10.out.bx 0 rfl
        have c3_3 := b3.cell 3 rfl
        clear b3
        have u4 : decide ((now : Int) < (aj : Int)) = false := decide_eq_false (by omega)
        have u4n : decide (now < aj) = false := decide_eq_false (by omega)
        have u5 : decide ((lj : Int) < (1 : Int)) = false := decide_eq_false (by omega)
        have u5n : decide (lj < 1) = false := decide_eq_false (by omega)
        go_wp2_with fail
        clear c3_3 E9
        generalize (w5.alloc (.cells #[.int .i64 now, .slice va (SLn P now (js.eraseIdx f) (drS ft P.length)).L.length vj, .slice vb (SLn P now (js.eraseIdx f) (drS ft P.length)).ats.length vk, .slice vc (SLn P now (js.eraseIdx f) (drS ft P.length)).ft.length vm] 64)).alloc (.cells #[.int .i64 0, .int .i64 (t : Nat), .int .i64 0, .int .i64 (j : Nat), .slice vo 1 vq] 24) = w6 at *
        have E11 : Hid (EnvP D w [(w5.heap.size + 1, 24, [.int .i64 0, .int .i64 (t : Nat), .int .i64 0, .int .i64 (j : Nat), .slice vo 1 vq]), (w5.heap.size, 64, [.int .i64 now, .slice va (SLn P now (js.eraseIdx f) (drS ft P.length)).L.length vj, .slice vb (SLn P now (js.eraseIdx f) (drS ft P.length)).ats.length vk, .slice vc (SLn P now (js.eraseIdx f) (drS ft P.length)).ft.length vm]), (wr.heap.size, 70, [.int .u8 (kd : Nat), .int .u8 (tp : Nat), .int .u8 (bb : Nat)]), (g5, 64, [.int .i64 now, .slice na (SLn P now js (drS ft P.length)).L.length nj, .slice nb (SLn P now js (drS ft P.length)).ats.length nk, .slice nc (SLn P now js (drS ft P.length)).ft.length nm]), (gs, 75, cs)] [.bs (.slice vo 1 vq) [byS P j], .rw (.slice vc (SLn P now (js.eraseIdx f) (drS ft P.length)).ft.length vm) (SLn P now (js.eraseIdx f) (drS ft P.length)).ft.length 2 (fcl (SLn P now (js.eraseIdx f) (drS ft P.length)).ft), .rw (.slice vb (SLn P now (js.eraseIdx f) (drS ft P.length)).ats.length vk) (SLn P now (js.eraseIdx f) (drS ft P.length)).ats.length 1 (icl (SLn P now (js.eraseIdx f) (drS ft P.length)).ats), .ms (.slice va (SLn P now (js.eraseIdx f) (drS ft P.length)).L.length vj) (SLn P now (js.eraseIdx f) (drS ft P.length)).L, .ce tab (tao + i * 3) (.int .u8 (kd : Nat)), .ce tab (tao + i * 3 + 1) (.int .u8 (tp : Nat)), .ce tab (tao + i * 3 + 2) (.int .u8 (bb : Nat)), .ms (.slice na (SLn P now js (drS ft P.length)).L.length nj) (SLn P now js (drS ft P.length)).L, .rw (.slice nb (SLn P now js (drS ft P.length)).ats.length nk) (SLn P now js (drS ft P.length)).ats.length 1 (icl (SLn P now js (drS ft P.length)).ats), .rw (.slice nc (SLn P now js (drS ft P.length)).ft.length nm) (SLn P now js (drS ft P.length)).ft.length 2 (fcl (SLn P now js (drS ft P.length)).ft), .rw (.slice fa ft.length fk) ft.length 2 (fcl ft), .rw (.slice (some ⟨tab, tao, none⟩) acts.length tk) acts.length 3 (acl acts)] mb m ls (w6.drew)) := Lib.hid E10.out.drew
        clear E10
        refine wp_regionU (S := fun w' => w'.cell? ⟨g5, 0, none⟩ = some (.int .i64 now) ∧ w'.cell? ⟨gs, j * 3, none⟩ = some (.int .i64 (t : Nat)) ∧ w'.cell? ⟨gs, j * 3 + 1, none⟩ = some (.int .i64 aj) ∧ w'.cell? ⟨gs, j * 3 + 2, none⟩ = some (.int .i64 lj)) [] (by kernel_rfl) (⟨((E11.out.bx 3 rfl).cell 0 rfl), (E11.out.bx 4 rfl).cell (j * 3) X1.out, (E11.out.bx 4 rfl).cell (j * 3 + 1) X2.out, (E11.out.bx 4 rfl).cell (j * 3 + 2) X3.out⟩) (fun hHeld => ?_)
        generalize w6.drew = w7 at *
        refine uTake (i := 0) (some 148) (v := ?_) rfl rfl (by kernel_rfl) (by kernel_rfl) (by kernel_rfl) (by kernel_rfl) (fun _ _ _ h => h) (by rfl) (by assumption) ?_ ?_
        rotate_left
        · (intro wS hSw; (try dsimp only at hSw); go_simp; try with_reducible rfl)
        try simp only [Act.put, List.setIfInBounds_toArray, List.set_cons_zero, List.set_cons_succ]
        refine uTake (i := 1) (some 149) (v := ?_) rfl rfl (by kernel_rfl) (by kernel_rfl) (by kernel_rfl) (by kernel_rfl) (fun _ _ _ h => h) (by rfl) (by assumption) ?_ ?_
        rotate_left
        · (intro wS hSw; (try dsimp only at hSw); go_simp; try with_reducible rfl)
        try simp only [Act.put, List.setIfInBounds_toArray, List.set_cons_zero, List.set_cons_succ]
        refine uTake (i := 2) (some 150) (v := ?_) rfl rfl (by kernel_rfl) (by kernel_rfl) (by kernel_rfl) (by kernel_rfl) (fun _ _ _ h => h) (by rfl) (by assumption) ?_ ?_
        rotate_left
        · (intro wS hSw; (try dsimp only at hSw); go_simp; try with_reducible rfl)
        try simp only [Act.put, List.setIfInBounds_toArray, List.set_cons_zero, List.set_cons_succ]
        refine uTake (i := 3) (some 151) (v := ?_) rfl rfl (by kernel_rfl) (by kernel_rfl) (by kernel_rfl) (by kernel_rfl) (fun _ _ _ h => h) (by rfl) (by assumption) ?_ ?_
        rotate_left
        · (intro wS hSw; (try dsimp only at hSw); go_simp; try with_reducible rfl)
        try simp only [Act.put, List.setIfInBounds_toArray, List.set_cons_zero, List.set_cons_succ]
        refine uTake (i := 4) (some 152) (v := ?_) rfl rfl (by kernel_rfl) (by kernel_rfl) (by kernel_rfl) (by kernel_rfl) (fun _ _ _ h => h) (by rfl) (by assumption) ?_ ?_
        rotate_left
        · (intro wS hSw; (try dsimp only at hSw); go_simp; try with_reducible rfl)
        try simp only [Act.put, List.setIfInBounds_toArray, List.set_cons_zero, List.set_cons_succ]
        refine uTake (i := 5) (some 153) (v := ?_) rfl rfl (by kernel_rfl) (by kernel_rfl) (by kernel_rfl) (by kernel_rfl) (fun _ _ _ h => h) (by rfl) (by assumption) ?_ ?_
        rotate_left
        · (intro wS hSw; (try dsimp only at hSw); go_simp; try with_reducible rfl)
        try simp only [Act.put, List.setIfInBounds_toArray, List.set_cons_zero, List.set_cons_succ]
        refine uTake (i := 6) (some 154) (v := ?_) rfl rfl (by kernel_rfl) (by kernel_rfl) (by kernel_rfl) (by kernel_rfl) (fun _ _ _ h => h) (by rfl) (by assumption) ?_ ?_
        rotate_left
        · (intro wS hSw; (try dsimp only at hSw); go_simp; try with_reducible rfl)
        try simp only [Act.put, List.setIfInBounds_toArray, List.set_cons_zero, List.set_cons_succ]
        refine uTake (i := 7) (some 155) (v := ?_) rfl rfl (by kernel_rfl) (by kernel_rfl) (by kernel_rfl) (by kernel_rfl) (fun _ _ _ h => h) (by rfl) (by assumption) ?_ ?_
        rotate_left
        · (intro wS hSw; (try dsimp only at hSw); go_simp; try with_reducible rfl)
        try simp only [Act.put, List.setIfInBounds_toArray, List.set_cons_zero, List.set_cons_succ]
        refine uTake (i := 8) (some 156) (v := ?_) rfl rfl (by kernel_rfl) (by kernel_rfl) (by kernel_rfl) (by kernel_rfl) (fun _ _ _ h => h) (by rfl) (by assumption) ?_ ?_
        rotate_left
        · (intro wS hSw; (try dsimp only at hSw); go_simp; try with_reducible rfl)
        try simp only [Act.put, List.setIfInBounds_toArray, List.set_cons_zero, List.set_cons_succ]
        refine uTake (i := 9) (some 157) (v := ?_) rfl rfl (by kernel_rfl) (by kernel_rfl) (by kernel_rfl) (by kernel_rfl) (fun _ _ _ h => h) (by rfl) (by assumption) ?_ ?_
        rotate_left
        · (intro wS hSw; (try dsimp only at hSw); go_simp; try with_reducible rfl)
        try simp only [Act.put, List.setIfInBounds_toArray, List.set_cons_zero, List.set_cons_succ]
        refine uTake (i := 10) (some 158) (v := ?_) rfl rfl (by kernel_rfl) (by kernel_rfl) (by kernel_rfl) (by kernel_rfl) (fun _ _ _ h => h) (by rfl) (by assumption) ?_ ?_
        rotate_left
        · (intro wS hSw; (try dsimp only at hSw); go_simp; try with_reducible rfl)
        try simp only [Act.put, List.setIfInBounds_toArray, List.set_cons_zero, List.set_cons_succ]
        refine uTake (i := 11) (some 159) (v := ?_) rfl rfl (by kernel_rfl) (by kernel_rfl) (by kernel_rfl) (by kernel_rfl) (fun _ _ _ h => h) (by rfl) (by assumption) ?_ ?_
        rotate_left
        · (intro wS hSw; (try dsimp only at hSw); go_simp; try with_reducible rfl)
        try simp only [Act.put, List.setIfInBounds_toArray, List.set_cons_zero, List.set_cons_succ]
        refine uTake (i := 12) (some 160) (v := ?_) rfl rfl (by kernel_rfl) (by kernel_rfl) (by kernel_rfl) (by kernel_rfl) (fun _ _ _ h => h) (by rfl) (by assumption) ?_ ?_
        rotate_left
        · (intro wS hSw; (try dsimp only at hSw); go_simp; try with_reducible rfl)
        try simp only [Act.put, List.setIfInBounds_toArray, List.set_cons_zero, List.set_cons_succ]
        refine uTake (i := 13) (some 161) (v := ?_) rfl rfl (by kernel_rfl) (by kernel_rfl) (by kernel_rfl) (by kernel_rfl) (fun _ _ _ h => h) (by rfl) (by assumption) ?_ ?_
        rotate_left
        · (intro wS hSw; (try dsimp only at hSw); go_simp; try with_reducible rfl)
        try simp only [Act.put, List.setIfInBounds_toArray, List.set_cons_zero, List.set_cons_succ]
        refine uTake (i := 14) (some 162) (v := ?_) rfl rfl (by kernel_rfl) (by kernel_rfl) (by kernel_rfl) (by kernel_rfl) (fun _ _ _ h => h) (by rfl) (by assumption) ?_ ?_
        rotate_left
        · (intro wS hSw; (try dsimp only at hSw); go_simp; try with_reducible rfl)
        try simp only [Act.put, List.setIfInBounds_toArray, List.set_cons_zero, List.set_cons_succ]
        refine uTake (i := 15) (some 163) (v := ?_) rfl rfl (by kernel_rfl) (by kernel_rfl) (by kernel_rfl) (by kernel_rfl) (fun _ _ _ h => h) (by rfl) (by assumption) ?_ ?_
        rotate_left
        · (intro wS hSw; (try dsimp only at hSw); go_simp; try with_reducible rfl)
        try simp only [Act.put, List.setIfInBounds_toArray, List.set_cons_zero, List.set_cons_succ]
        refine uTake (i := 16) (some 164) (v := ?_) rfl rfl (by kernel_rfl) (by kernel_rfl) (by kernel_rfl) (by kernel_rfl) (fun _ _ _ h => h) (by rfl) (by assumption) ?_ ?_
        rotate_left
        · (intro wS hSw; (try dsimp only at hSw); go_simp; try with_reducible rfl)
        try simp only [Act.put, List.setIfInBounds_toArray, List.set_cons_zero, List.set_cons_succ]
        refine uTake (i := 17) (some 165) (v := ?_) rfl rfl (by kernel_rfl) (by kernel_rfl) (by kernel_rfl) (by kernel_rfl) (fun _ _ _ h => h) (by rfl) (by assumption) ?_ ?_
        rotate_left
        · (intro wS hSw; (try dsimp only at hSw); go_simp; try with_reducible rfl)
        try simp only [Act.put, List.setIfInBounds_toArray, List.set_cons_zero, List.set_cons_succ]
        refine uTake (i := 18) (some 166) (v := ?_) rfl rfl (by kernel_rfl) (by kernel_rfl) (by kernel_rfl) (by kernel_rfl) (fun _ _ _ h => h) (by rfl) (by assumption) ?_ ?_
        rotate_left
        · (intro wS hSw; (try dsimp only at hSw); go_simp; try with_reducible rfl)
        try simp only [Act.put, List.setIfInBounds_toArray, List.set_cons_zero, List.set_cons_succ]
        refine uTake (i := 19) (some 167) (v := ?_) rfl rfl (by kernel_rfl) (by kernel_rfl) (by kernel_rfl) (by kernel_rfl) (fun _ _ _ h => h) (by rfl) (by assumption) ?_ ?_
        rotate_left
        · (intro wS hSw; (try dsimp only at hSw); go_simp; try with_reducible rfl)
        try simp only [Act.put, List.setIfInBounds_toArray, List.set_cons_zero, List.set_cons_succ]
        refine uTake (i := 20) (some 168) (v := ?_) rfl rfl (by kernel_rfl) (by kernel_rfl) (by kernel_rfl) (by kernel_rfl) (fun _ _ _ h => h) (by rfl) (by assumption) ?_ ?_
        rotate_left
        · (intro wS hSw; (try dsimp only at hSw); go_simp; try with_reducible rfl)
        try simp only [Act.put, List.setIfInBounds_toArray, List.set_cons_zero, List.set_cons_succ]
        refine uTake (i := 21) (some 169) (v := ?_) rfl rfl (by kernel_rfl) (by kernel_rfl) (by kernel_rfl) (by kernel_rfl) (fun _ _ _ h => h) (by rfl) (by assumption) ?_ ?_
        rotate_left
        · (intro wS hSw; (try dsimp only at hSw); go_simp; try with_reducible rfl)
        try simp only [Act.put, List.setIfInBounds_toArray, List.set_cons_zero, List.set_cons_succ]
        refine uDone (by kernel_rfl) ?_ _
        go_upto_region 33 with (fail)
        have bg := E11.out.bx 4 rfl
        have y1 := bg.cell (j * 3 + 2) X3.out
        have y2 := bg.frozen (j * 3 + 2)
        clear bg
        have e6 : wrap64 (lj - 1) = lj - 1 := IntWalk.wrap64_in _ (by omega)
        have E12 : Hid (EnvP D w [(w5.heap.size + 1, 24, [.int .i64 0, .int .i64 (t : Nat), .int .i64 0, .int .i64 (j : Nat), .slice vo 1 vq]), (w5.heap.size, 64, [.int .i64 now, .slice va (SLn P now (js.eraseIdx f) (drS ft P.length)).L.length vj, .slice vb (SLn P now (js.eraseIdx f) (drS ft P.length)).ats.length vk, .slice vc (SLn P now (js.eraseIdx f) (drS ft P.length)).ft.length vm]), (wr.heap.size, 70, [.int .u8 (kd : Nat), .int .u8 (tp : Nat), .int .u8 (bb : Nat)]), (g5, 64, [.int .i64 now, .slice na (SLn P now js (drS ft P.length)).L.length nj, .slice nb (SLn P now js (drS ft P.length)).ats.length nk, .slice nc (SLn P now js (drS ft P.length)).ft.length nm]), (gs, 75, (cs.set (j * 3 + 2) (.int .i64 (lj - 1))))] [.bs (.slice vo 1 vq) [byS P j], .rw (.slice vc (SLn P now (js.eraseIdx f) (drS ft P.length)).ft.length vm) (SLn P now (js.eraseIdx f) (drS ft P.length)).ft.length 2 (fcl (SLn P now (js.eraseIdx f) (drS ft P.length)).ft), .rw (.slice vb (SLn P now (js.eraseIdx f) (drS ft P.length)).ats.length vk) (SLn P now (js.eraseIdx f) (drS ft P.length)).ats.length 1 (icl (SLn P now (js.eraseIdx f) (drS ft P.length)).ats), .ms (.slice va (SLn P now (js.eraseIdx f) (drS ft P.length)).L.length vj) (SLn P now (js.eraseIdx f) (drS ft P.length)).L, .ce tab (tao + i * 3) (.int .u8 (kd : Nat)), .ce tab (tao + i * 3 + 1) (.int .u8 (tp : Nat)), .ce tab (tao + i * 3 + 2) (.int .u8 (bb : Nat)), .ms (.slice na (SLn P now js (drS ft P.length)).L.length nj) (SLn P now js (drS ft P.length)).L, .rw (.slice nb (SLn P now js (drS ft P.length)).ats.length nk) (SLn P now js (drS ft P.length)).ats.length 1 (icl (SLn P now js (drS ft P.length)).ats), .rw (.slice nc (SLn P now js (drS ft P.length)).ft.length nm) (SLn P now js (drS ft P.length)).ft.length 2 (fcl (SLn P now js (drS ft P.length)).ft), .rw (.slice fa ft.length fk) ft.length 2 (fcl ft), .rw (.slice (some ⟨tab, tao, none⟩) acts.length tk) acts.length 3 (acl acts)] mb m ls _) := Lib.hid ((E11.out.set 4 (j * 3 + 2) (.int .i64 (lj - 1)) rfl))
        have HS2 := Lib.hid (HS.out.set hj (lj - 1))
        have hlc : j * 3 + 2 < cs.length := (List.getElem?_eq_some_iff.1 X3.out).1
        have X2b : Hid ((cs.set (j * 3 + 2) (.int .i64 (lj - 1)))[j * 3 + 1]? = some (.int .i64 aj)) := Lib.hid (by rw [List.getElem?_set_ne (by omega)]; exact X2.out)
        obtain ⟨cs3, hcs3⟩ : ∃ cs3, cs.set (j * 3 + 2) (.int .i64 (lj - 1)) = cs3 := ⟨_, rfl⟩
        rw [hcs3] at HS2 X2b
        have E13 : Hid (EnvP D w [(w5.heap.size + 1, 24, [.int .i64 0, .int .i64 (t : Nat), .int .i64 0, .int .i64 (j : Nat), .slice vo 1 vq]), (w5.heap.size, 64, [.int .i64 now, .slice va (SLn P now (js.eraseIdx f) (drS ft P.length)).L.length vj, .slice vb (SLn P now (js.eraseIdx f) (drS ft P.length)).ats.length vk, .slice vc (SLn P now (js.eraseIdx f) (drS ft P.length)).ft.length vm]), (wr.heap.size, 70, [.int .u8 (kd : Nat), .int .u8 (tp : Nat), .int .u8 (bb : Nat)]), (g5, 64, [.int .i64 now, .slice na (SLn P now js (drS ft P.length)).L.length nj, .slice nb (SLn P now js (drS ft P.length)).ats.length nk, .slice nc (SLn P now js (drS ft P.length)).ft.length nm]), (gs, 75, cs3)] [.bs (.slice vo 1 vq) [byS P j], .rw (.slice vc (SLn P now (js.eraseIdx f) (drS ft P.length)).ft.length vm) (SLn P now (js.eraseIdx f) (drS ft P.length)).ft.length 2 (fcl (SLn P now (js.eraseIdx f) (drS ft P.length)).ft), .rw (.slice vb (SLn P now (js.eraseIdx f) (drS ft P.length)).ats.length vk) (SLn P now (js.eraseIdx f) (drS ft P.length)).ats.length 1 (icl (SLn P now (js.eraseIdx f) (drS ft P.length)).ats), .ms (.slice va (SLn P now (js.eraseIdx f) (drS ft P.length)).L.length vj) (SLn P now (js.eraseIdx f) (drS ft P.length)).L, .ce tab (tao + i * 3) (.int .u8 (kd : Nat)), .ce tab (tao + i * 3 + 1) (.int .u8 (tp : Nat)), .ce tab (tao + i * 3 + 2) (.int .u8 (bb : Nat)), .ms (.slice na (SLn P now js (drS ft P.length)).L.length nj) (SLn P now js (drS ft P.length)).L, .rw (.slice nb (SLn P now js (drS ft P.length)).ats.length nk) (SLn P now js (drS ft P.length)).ats.length 1 (icl (SLn P now js (drS ft P.length)).ats), .rw (.slice nc (SLn P now js (drS ft P.length)).ft.length nm) (SLn P now js (drS ft P.length)).ft.length 2 (fcl (SLn P now js (drS ft P.length)).ft), .rw (.slice fa ft.length fk) ft.length 2 (fcl ft), .rw (.slice (some ⟨tab, tao, none⟩) acts.length tk) acts.length 3 (acl acts)] mb m ls _) := Lib.hid (by have h := E12.out; rw [hcs3] at h; exact h)
        go_wp2_with fail
        clear y1 y2 E11 E12
        generalize w7.setCell ⟨gs, (j * 3 + 2), none⟩ (.int .i64 (lj - 1)) = w8 at *
        have E14 : Hid (EnvP D w [(w5.heap.size + 1, 24, [.int .i64 0, .int .i64 (t : Nat), .int .i64 0, .int .i64 (j : Nat), .slice vo 1 vq]), (w5.heap.size, 64, [.int .i64 now, .slice va (SLn P now (js.eraseIdx f) (drS ft P.length)).L.length vj, .slice vb (SLn P now (js.eraseIdx f) (drS ft P.length)).ats.length vk, .slice vc (SLn P now (js.eraseIdx f) (drS ft P.length)).ft.length vm]), (wr.heap.size, 70, [.int .u8 (kd : Nat), .int .u8 (tp : Nat), .int .u8 (bb : Nat)]), (g5, 64, [.int .i64 now, .slice na (SLn P now js (drS ft P.length)).L.length nj, .slice nb (SLn P now js (drS ft P.length)).ats.length nk, .slice nc (SLn P now js (drS ft P.length)).ft.length nm]), (gs, 75, cs3)] [.bs (.slice vo 1 vq) [byS P j], .rw (.slice vc (SLn P now (js.eraseIdx f) (drS ft P.length)).ft.length vm) (SLn P now (js.eraseIdx f) (drS ft P.length)).ft.length 2 (fcl (SLn P now (js.eraseIdx f) (drS ft P.length)).ft), .rw (.slice vb (SLn P now (js.eraseIdx f) (drS ft P.length)).ats.length vk) (SLn P now (js.eraseIdx f) (drS ft P.length)).ats.length 1 (icl (SLn P now (js.eraseIdx f) (drS ft P.length)).ats), .ms (.slice va (SLn P now (js.eraseIdx f) (drS ft P.length)).L.length vj) (SLn P now (js.eraseIdx f) (drS ft P.length)).L, .ce tab (tao + i * 3) (.int .u8 (kd : Nat)), .ce tab (tao + i * 3 + 1) (.int .u8 (tp : Nat)), .ce tab (tao + i * 3 + 2) (.int .u8 (bb : Nat)), .ms (.slice na (SLn P now js (drS ft P.length)).L.length nj) (SLn P now js (drS ft P.length)).L, .rw (.slice nb (SLn P now js (drS ft P.length)).ats.length nk) (SLn P now js (drS ft P.length)).ats.length 1 (icl (SLn P now js (drS ft P.length)).ats), .rw (.slice nc (SLn P now js (drS ft P.length)).ft.length nm) (SLn P now js (drS ft P.length)).ft.length 2 (fcl (SLn P now js (drS ft P.length)).ft), .rw (.slice fa ft.length fk) ft.length 2 (fcl ft), .rw (.slice (some ⟨tab, tao, none⟩) acts.length tk) acts.length 3 (acl acts)] mb m ls (w8.drew)) := Lib.hid E13.out.drew
        clear E13
        refine wp_regionU (S := fun w' => w'.cell? ⟨w5.heap.size + 1, 3, none⟩ = some (.int .i64 (j : Nat)) ∧ w'.cell? ⟨gs, j * 3 + 1, none⟩ = some (.int .i64 aj)) [] (by kernel_rfl) (⟨((E14.out.bx 0 rfl).cell 3 rfl), (E14.out.bx 4 rfl).cell (j * 3 + 1) X2b.out⟩) (fun hHeld => ?_)
        generalize w8.drew = w9 at *
        refine uTake (i := 0) (some 177) (v := ?_) rfl rfl (by kernel_rfl) (by kernel_rfl) (by kernel_rfl) (by kernel_rfl) (fun _ _ _ h => h) (by rfl) (by assumption) ?_ ?_
        rotate_left
        · (intro wS hSw; (try dsimp only at hSw); go_simp; try with_reducible rfl)
        try simp only [Act.put, List.setIfInBounds_toArray, List.set_cons_zero, List.set_cons_succ]
        refine uTake (i := 1) (some 178) (v := ?_) rfl rfl (by kernel_rfl) (by kernel_rfl) (by kernel_rfl) (by kernel_rfl) (fun _ _ _ h => h) (by rfl) (by assumption) ?_ ?_
        rotate_left
        · (intro wS hSw; (try dsimp only at hSw); go_simp; try with_reducible rfl)
        try simp only [Act.put, List.setIfInBounds_toArray, List.set_cons_zero, List.set_cons_succ]
        refine uTake (i := 2) (some 179) (v := ?_) rfl rfl (by kernel_rfl) (by kernel_rfl) (by kernel_rfl) (by kernel_rfl) (fun _ _ _ h => h) (by rfl) (by assumption) ?_ ?_
        rotate_left
        · (intro wS hSw; (try dsimp only at hSw); go_simp; try with_reducible rfl)
        try simp only [Act.put, List.setIfInBounds_toArray, List.set_cons_zero, List.set_cons_succ]
        refine uTake (i := 3) (some 180) (v := ?_) rfl rfl (by kernel_rfl) (by kernel_rfl) (by kernel_rfl) (by kernel_rfl) (fun _ _ _ h => h) (by rfl) (by assumption) ?_ ?_
        rotate_left
        · (intro wS hSw; (try dsimp only at hSw); go_simp; try with_reducible rfl)
        try simp only [Act.put, List.setIfInBounds_toArray, List.set_cons_zero, List.set_cons_succ]
        refine uTake (i := 4) (some 181) (v := ?_) rfl rfl (by kernel_rfl) (by kernel_rfl) (by kernel_rfl) (by kernel_rfl) (fun _ _ _ h => h) (by rfl) (by assumption) ?_ ?_
        rotate_left
        · (intro wS hSw; (try dsimp only at hSw); go_simp; try with_reducible rfl)
        try simp only [Act.put, List.setIfInBounds_toArray, List.set_cons_zero, List.set_cons_succ]
        refine uTake (i := 5) (some 182) (v := ?_) rfl rfl (by kernel_rfl) (by kernel_rfl) (by kernel_rfl) (by kernel_rfl) (fun _ _ _ h => h) (by rfl) (by assumption) ?_ ?_
        rotate_left
        · (intro wS hSw; (try dsimp only at hSw); go_simp; try with_reducible rfl)
        try simp only [Act.put, List.setIfInBounds_toArray, List.set_cons_zero, List.set_cons_succ]
        refine uTake (i := 6) (some 183) (v := ?_) rfl rfl (by kernel_rfl) (by kernel_rfl) (by kernel_rfl) (by kernel_rfl) (fun _ _ _ h => h) (by rfl) (by assumption) ?_ ?_
        rotate_left
        · (intro wS hSw; (try dsimp only at hSw); go_simp; try with_reducible rfl)
        try simp only [Act.put, List.setIfInBounds_toArray, List.set_cons_zero, List.set_cons_succ]
        refine uReady (rs := [7]) (by kernel_rfl) (by simp) ?_
        refine ReadyU.cons rfl (fun KK hKK => ?_) ReadyU.nil
        go_simp
        have E15 : Hid (EnvP D w [(w9.heap.size, 80, [.int .i64 0, .int .i64 0]), (w5.heap.size + 1, 24, [.int .i64 0, .int .i64 (t : Nat), .int .i64 0, .int .i64 (j : Nat), .slice vo 1 vq]), (w5.heap.size, 64, [.int .i64 now, .slice va (SLn P now (js.eraseIdx f) (drS ft P.length)).L.length vj, .slice vb (SLn P now (js.eraseIdx f) (drS ft P.length)).ats.length vk, .slice vc (SLn P now (js.eraseIdx f) (drS ft P.length)).ft.length vm]), (wr.heap.size, 70, [.int .u8 (kd : Nat), .int .u8 (tp : Nat), .int .u8 (bb : Nat)]), (g5, 64, [.int .i64 now, .slice na (SLn P now js (drS ft P.length)).L.length nj, .slice nb (SLn P now js (drS ft P.length)).ats.length nk, .slice nc (SLn P now js (drS ft P.length)).ft.length nm]), (gs, 75, cs3)] [.bs (.slice vo 1 vq) [byS P j], .rw (.slice vc (SLn P now (js.eraseIdx f) (drS ft P.length)).ft.length vm) (SLn P now (js.eraseIdx f) (drS ft P.length)).ft.length 2 (fcl (SLn P now (js.eraseIdx f) (drS ft P.length)).ft), .rw (.slice vb (SLn P now (js.eraseIdx f) (drS ft P.length)).ats.length vk) (SLn P now (js.eraseIdx f) (drS ft P.length)).ats.length 1 (icl (SLn P now (js.eraseIdx f) (drS ft P.length)).ats), .ms (.slice va (SLn P now (js.eraseIdx f) (drS ft P.length)).L.length vj) (SLn P now (js.eraseIdx f) (drS ft P.length)).L, .ce tab (tao + i * 3) (.int .u8 (kd : Nat)), .ce tab (tao + i * 3 + 1) (.int .u8 (tp : Nat)), .ce tab (tao + i * 3 + 2) (.int .u8 (bb : Nat)), .ms (.slice na (SLn P now js (drS ft P.length)).L.length nj) (SLn P now js (drS ft P.length)).L, .rw (.slice nb (SLn P now js (drS ft P.length)).ats.length nk) (SLn P now js (drS ft P.length)).ats.length 1 (icl (SLn P now js (drS ft P.length)).ats), .rw (.slice nc (SLn P now js (drS ft P.length)).ft.length nm) (SLn P now js (drS ft P.length)).ft.length 2 (fcl (SLn P now js (drS ft P.length)).ft), .rw (.slice fa ft.length fk) ft.length 2 (fcl ft), .rw (.slice (some ⟨tab, tao, none⟩) acts.length tk) acts.length 3 (acl acts)] mb m ls _) := Lib.hid ((E14.out.push 80 [.int .i64 0, .int .i64 0] (w9.heap.size) (by simp)))
        (try dsimp only)
        clear hHeld
        refine hKK.out _ _ (⟨((E15.out.bx 1 rfl).cell 3 rfl), (E15.out.bx 5 rfl).cell (j * 3 + 1) X2b.out⟩) (fun hHeld => ?_)
        clear hKK KK
        try simp only [Act.put, List.setIfInBounds_toArray, List.set_cons_zero, List.set_cons_succ]
        clear E14
        generalize w9.alloc (.cells #[.int .i64 0, .int .i64 0] 80) = w10 at *
        have b4 := E15.out.bx 0 rfl
        have c4_0 := b4.cell 0 rfl
        have c4_1 := b4.cell 1 rfl
        have f4_0 := b4.frozen 0
        have f4_1 := b4.frozen 1
        clear b4
        refine uReady (rs := [8]) (by kernel_rfl) (by simp) ?_
        refine ReadyU.cons rfl (fun KK hKK => ?_) ReadyU.nil
        go_simp
        have E16 : Hid (EnvP D w [(w9.heap.size, 80, [.int .i64 aj, .int .i64 (j : Nat)]), (w5.heap.size + 1, 24, [.int .i64 0, .int .i64 (t : Nat), .int .i64 0, .int .i64 (j : Nat), .slice vo 1 vq]), (w5.heap.size, 64, [.int .i64 now, .slice va (SLn P now (js.eraseIdx f) (drS ft P.length)).L.length vj, .slice vb (SLn P now (js.eraseIdx f) (drS ft P.length)).ats.length vk, .slice vc (SLn P now (js.eraseIdx f) (drS ft P.length)).ft.length vm]), (wr.heap.size, 70, [.int .u8 (kd : Nat), .int .u8 (tp : Nat), .int .u8 (bb : Nat)]), (g5, 64, [.int .i64 now, .slice na (SLn P now js (drS ft P.length)).L.length nj, .slice nb (SLn P now js (drS ft P.length)).ats.length nk, .slice nc (SLn P now js (drS ft P.length)).ft.length nm]), (gs, 75, cs3)] [.bs (.slice vo 1 vq) [byS P j], .rw (.slice vc (SLn P now (js.eraseIdx f) (drS ft P.length)).ft.length vm) (SLn P now (js.eraseIdx f) (drS ft P.length)).ft.length 2 (fcl (SLn P now (js.eraseIdx f) (drS ft P.length)).ft), .rw (.slice vb (SLn P now (js.eraseIdx f) (drS ft P.length)).ats.length vk) (SLn P now (js.eraseIdx f) (drS ft P.length)).ats.length 1 (icl (SLn P now (js.eraseIdx f) (drS ft P.length)).ats), .ms (.slice va (SLn P now (js.eraseIdx f) (drS ft P.length)).L.length vj) (SLn P now (js.eraseIdx f) (drS ft P.length)).L, .ce tab (tao + i * 3) (.int .u8 (kd : Nat)), .ce tab (tao + i * 3 + 1) (.int .u8 (tp : Nat)), .ce tab (tao + i * 3 + 2) (.int .u8 (bb : Nat)), .ms (.slice na (SLn P now js (drS ft P.length)).L.length nj) (SLn P now js (drS ft P.length)).L, .rw (.slice nb (SLn P now js (drS ft P.length)).ats.length nk) (SLn P now js (drS ft P.length)).ats.length 1 (icl (SLn P now js (drS ft P.length)).ats), .rw (.slice nc (SLn P now js (drS ft P.length)).ft.length nm) (SLn P now js (drS ft P.length)).ft.length 2 (fcl (SLn P now js (drS ft P.length)).ft), .rw (.slice fa ft.length fk) ft.length 2 (fcl ft), .rw (.slice (some ⟨tab, tao, none⟩) acts.length tk) acts.length 3 (acl acts)] mb m ls _) := Lib.hid (((E15.out.set 0 0 (.int .i64 aj) rfl).set 0 1 (.int .i64 (j : Nat)) rfl))
        (try dsimp only)
        clear hHeld
        refine hKK.out _ _ (⟨((E16.out.bx 1 rfl).cell 3 rfl), (E16.out.bx 5 rfl).cell (j * 3 + 1) X2b.out⟩) (fun hHeld => ?_)
        clear hKK KK
        try simp only [Act.put, List.setIfInBounds_toArray, List.set_cons_zero, List.set_cons_succ]
        refine uDone (by kernel_rfl) ?_ _
        clear c4_0 c4_1 f4_0 f4_1 E15
        generalize (w10.setCell ⟨w9.heap.size, 0, none⟩ (.int .i64 aj)).setCell ⟨w9.heap.size, 1, none⟩ (.int .i64 (j : Nat)) = w11 at *
        cases hl9 : ls (t : Int) with
        | none => as_aux_lemma =>
          have pe : prL (ls (t : Int)) = (0, 0) := by rw [hl9]; rfl
          have ps : (ls (t : Int)).isSome = false := by rw [hl9]; rfl
          have H9 := Lib.hid hl9
          clear hl9
          go_upto_region 36 with (at_lookup; refine wpl_lookP rfl _ _ rfl E16.out rfl rfl (by omega) ?_)
          have E17 : Hid (EnvP D w [(w11.heap.size, 80, [.int .i64 0, .int .i64 0]), (w9.heap.size, 80, [.int .i64 aj, .int .i64 (j : Nat)]), (w5.heap.size + 1, 24, [.int .i64 0, .int .i64 (t : Nat), .int .i64 0, .int .i64 (j : Nat), .slice vo 1 vq]), (w5.heap.size, 64, [.int .i64 now, .slice va (SLn P now (js.eraseIdx f) (drS ft P.length)).L.length vj, .slice vb (SLn P now (js.eraseIdx f) (drS ft P.length)).ats.length vk, .slice vc (SLn P now (js.eraseIdx f) (drS ft P.length)).ft.length vm]), (wr.heap.size, 70, [.int .u8 (kd : Nat), .int .u8 (tp : Nat), .int .u8 (bb : Nat)]), (g5, 64, [.int .i64 now, .slice na (SLn P now js (drS ft P.length)).L.length nj, .slice nb (SLn P now js (drS ft P.length)).ats.length nk, .slice nc (SLn P now js (drS ft P.length)).ft.length nm]), (gs, 75, cs3)] [.bs (.slice vo 1 vq) [byS P j], .rw (.slice vc (SLn P now (js.eraseIdx f) (drS ft P.length)).ft.length vm) (SLn P now (js.eraseIdx f) (drS ft P.length)).ft.length 2 (fcl (SLn P now (js.eraseIdx f) (drS ft P.length)).ft), .rw (.slice vb (SLn P now (js.eraseIdx f) (drS ft P.length)).ats.length vk) (SLn P now (js.eraseIdx f) (drS ft P.length)).ats.length 1 (icl (SLn P now (js.eraseIdx f) (drS ft P.length)).ats), .ms (.slice va (SLn P now (js.eraseIdx f) (drS ft P.length)).L.length vj) (SLn P now (js.eraseIdx f) (drS ft P.length)).L, .ce tab (tao + i * 3) (.int .u8 (kd : Nat)), .ce tab (tao + i * 3 + 1) (.int .u8 (tp : Nat)), .ce tab (tao + i * 3 + 2) (.int .u8 (bb : Nat)), .ms (.slice na (SLn P now js (drS ft P.length)).L.length nj) (SLn P now js (drS ft P.length)).L, .rw (.slice nb (SLn P now js (drS ft P.length)).ats.length nk) (SLn P now js (drS ft P.length)).ats.length 1 (icl (SLn P now js (drS ft P.length)).ats), .rw (.slice nc (SLn P now js (drS ft P.length)).ft.length nm) (SLn P now js (drS ft P.length)).ft.length 2 (fcl (SLn P now js (drS ft P.length)).ft), .rw (.slice fa ft.length fk) ft.length 2 (fcl ft), .rw (.slice (some ⟨tab, tao, none⟩) acts.length tk) acts.length 3 (acl acts)] mb m ls _) := Lib.hid ((E16.out.push 80 [.int .i64 0, .int .i64 0] (w11.heap.size) (by simp)))
          clear E16
          generalize w11.alloc (.cells #[.int .i64 0, .int .i64 0] 80) = w12 at *
          have HI3 : Hid (ScI ft (i + 1) now P (lf.set j (lj - 1)) (js.eraseIdx f) (putL ls (t : Int) (aj, (j : Int)))) := Lib.hid (by have h := HI2.out; rw [HLJ.out, HAJ.out] at h; exact h)
          have b5 := E17.out.bx 1 rfl
          have c5_0 := b5.cell 0 rfl
          have c5_1 := b5.cell 1 rfl
          clear b5
          have b6 := E17.out.bx 0 rfl
          have c6_0 := b6.cell 0 rfl
          have c6_1 := b6.cell 1 rfl
          clear b6
          go_upto_region 38 with (fail)
          go_wp2_with (at_mapUpdate; refine wpl_updP rfl _ _ _ rfl E17.out rfl (by omega) rfl (by omega) rfl ?_)
          intro wu EU
          have E18 : Hid (EnvP D w [(w11.heap.size, 80, [.int .i64 0, .int .i64 0]), (w9.heap.size, 80, [.int .i64 aj, .int .i64 (j : Nat)]), (w5.heap.size + 1, 24, [.int .i64 0, .int .i64 (t : Nat), .int .i64 0, .int .i64 (j : Nat), .slice vo 1 vq]), (w5.heap.size, 64, [.int .i64 now, .slice va (SLn P now (js.eraseIdx f) (drS ft P.length)).L.length vj, .slice vb (SLn P now (js.eraseIdx f) (drS ft P.length)).ats.length vk, .slice vc (SLn P now (js.eraseIdx f) (drS ft P.length)).ft.length vm]), (wr.heap.size, 70, [.int .u8 (kd : Nat), .int .u8 (tp : Nat), .int .u8 (bb : Nat)]), (g5, 64, [.int .i64 now, .slice na (SLn P now js (drS ft P.length)).L.length nj, .slice nb (SLn P now js (drS ft P.length)).ats.length nk, .slice nc (SLn P now js (drS ft P.length)).ft.length nm]), (gs, 75, cs3)] [.bs (.slice vo 1 vq) [byS P j], .rw (.slice vc (SLn P now (js.eraseIdx f) (drS ft P.length)).ft.length vm) (SLn P now (js.eraseIdx f) (drS ft P.length)).ft.length 2 (fcl (SLn P now (js.eraseIdx f) (drS ft P.length)).ft), .rw (.slice vb (SLn P now (js.eraseIdx f) (drS ft P.length)).ats.length vk) (SLn P now (js.eraseIdx f) (drS ft P.length)).ats.length 1 (icl (SLn P now (js.eraseIdx f) (drS ft P.length)).ats), .ms (.slice va (SLn P now (js.eraseIdx f) (drS ft P.length)).L.length vj) (SLn P now (js.eraseIdx f) (drS ft P.length)).L, .ce tab (tao + i * 3) (.int .u8 (kd : Nat)), .ce tab (tao + i * 3 + 1) (.int .u8 (tp : Nat)), .ce tab (tao + i * 3 + 2) (.int .u8 (bb : Nat)), .ms (.slice na (SLn P now js (drS ft P.length)).L.length nj) (SLn P now js (drS ft P.length)).L, .rw (.slice nb (SLn P now js (drS ft P.length)).ats.length nk) (SLn P now js (drS ft P.length)).ats.length 1 (icl (SLn P now js (drS ft P.length)).ats), .rw (.slice nc (SLn P now js (drS ft P.length)).ft.length nm) (SLn P now js (drS ft P.length)).ft.length 2 (fcl (SLn P now js (drS ft P.length)).ft), .rw (.slice fa ft.length fk) ft.length 2 (fcl ft), .rw (.slice (some ⟨tab, tao, none⟩) acts.length tk) acts.length 3 (acl acts)] mb (m + 1) (putL ls (t : Int) (aj, (j : Int))) wu) := EU
          clear c5_0 c5_1 c6_0 c6_1 E17 EU
          have b7 := E18.out.bx 3 rfl
          have c7_0 := b7.cell 0 rfl
          have c7_1 := b7.cell 1 rfl
          have c7_2 := b7.cell 2 rfl
          have c7_3 := b7.cell 3 rfl
          clear b7
          have b8 := E18.out.bx 5 rfl
          have c8_0 := b8.cell 0 rfl
          have c8_1 := b8.cell 1 rfl
          have c8_2 := b8.cell 2 rfl
          have c8_3 := b8.cell 3 rfl
          have f8_0 := b8.frozen 0
          have f8_1 := b8.frozen 1
          have f8_2 := b8.frozen 2
          have f8_3 := b8.frozen 3
          clear b8
          go_wp2_with fail
          have E19 : Hid (EnvP D w [(w11.heap.size, 80, [.int .i64 0, .int .i64 0]), (w9.heap.size, 80, [.int .i64 aj, .int .i64 (j : Nat)]), (w5.heap.size + 1, 24, [.int .i64 0, .int .i64 (t : Nat), .int .i64 0, .int .i64 (j : Nat), .slice vo 1 vq]), (w5.heap.size, 64, [.int .i64 now, .slice va (SLn P now (js.eraseIdx f) (drS ft P.length)).L.length vj, .slice vb (SLn P now (js.eraseIdx f) (drS ft P.length)).ats.length vk, .slice vc (SLn P now (js.eraseIdx f) (drS ft P.length)).ft.length vm]), (wr.heap.size, 70, [.int .u8 (kd : Nat), .int .u8 (tp : Nat), .int .u8 (bb : Nat)]), (g5, 64, [.int .i64 now, .slice va (SLn P now (js.eraseIdx f) (drS ft P.length)).L.length vj, .slice vb (SLn P now (js.eraseIdx f) (drS ft P.length)).ats.length vk, .slice vc (SLn P now (js.eraseIdx f) (drS ft P.length)).ft.length vm]), (gs, 75, cs3)] [.bs (.slice vo 1 vq) [byS P j], .rw (.slice vc (SLn P now (js.eraseIdx f) (drS ft P.length)).ft.length vm) (SLn P now (js.eraseIdx f) (drS ft P.length)).ft.length 2 (fcl (SLn P now (js.eraseIdx f) (drS ft P.length)).ft), .rw (.slice vb (SLn P now (js.eraseIdx f) (drS ft P.length)).ats.length vk) (SLn P now (js.eraseIdx f) (drS ft P.length)).ats.length 1 (icl (SLn P now (js.eraseIdx f) (drS ft P.length)).ats), .ms (.slice va (SLn P now (js.eraseIdx f) (drS ft P.length)).L.length vj) (SLn P now (js.eraseIdx f) (drS ft P.length)).L, .ce tab (tao + i * 3) (.int .u8 (kd : Nat)), .ce tab (tao + i * 3 + 1) (.int .u8 (tp : Nat)), .ce tab (tao + i * 3 + 2) (.int .u8 (bb : Nat)), .ms (.slice na (SLn P now js (drS ft P.length)).L.length nj) (SLn P now js (drS ft P.length)).L, .rw (.slice nb (SLn P now js (drS ft P.length)).ats.length nk) (SLn P now js (drS ft P.length)).ats.length 1 (icl (SLn P now js (drS ft P.length)).ats), .rw (.slice nc (SLn P now js (drS ft P.length)).ft.length nm) (SLn P now js (drS ft P.length)).ft.length 2 (fcl (SLn P now js (drS ft P.length)).ft), .rw (.slice fa ft.length fk) ft.length 2 (fcl ft), .rw (.slice (some ⟨tab, tao, none⟩) acts.length tk) acts.length 3 (acl acts)] mb (m + 1) (putL ls (t : Int) (aj, (j : Int))) _) := Lib.hid (((((E18.out.set 5 0 (.int .i64 now) rfl).set 5 1 (.slice va (SLn P now (js.eraseIdx f) (drS ft P.length)).L.length vj) rfl).set 5 2 (.slice vb (SLn P now (js.eraseIdx f) (drS ft P.length)).ats.length vk) rfl).set 5 3 (.slice vc (SLn P now (js.eraseIdx f) (drS ft P.length)).ft.length vm) rfl))
          refine (Valid_sc HI3.out (E19.out.fc 3 rfl) (E19.out.fc 2 rfl) (E19.out.fc 1 rfl)).mono ?_
          rintro e w13 ⟨rfl, hb⟩
          have E20 : Hid (EnvP D w [(w11.heap.size, 80, [.int .i64 0, .int .i64 0]), (w9.heap.size, 80, [.int .i64 aj, .int .i64 (j : Nat)]), (w5.heap.size + 1, 24, [.int .i64 0, .int .i64 (t : Nat), .int .i64 0, .int .i64 (j : Nat), .slice vo 1 vq]), (w5.heap.size, 64, [.int .i64 now, .slice va (SLn P now (js.eraseIdx f) (drS ft P.length)).L.length vj, .slice vb (SLn P now (js.eraseIdx f) (drS ft P.length)).ats.length vk, .slice vc (SLn P now (js.eraseIdx f) (drS ft P.length)).ft.length vm]), (wr.heap.size, 70, [.int .u8 (kd : Nat), .int .u8 (tp : Nat), .int .u8 (bb : Nat)]), (g5, 64, [.int .i64 now, .slice va (SLn P now (js.eraseIdx f) (drS ft P.length)).L.length vj, .slice vb (SLn P now (js.eraseIdx f) (drS ft P.length)).ats.length vk, .slice vc (SLn P now (js.eraseIdx f) (drS ft P.length)).ft.length vm]), (gs, 75, cs3)] [.bs (.slice vo 1 vq) [byS P j], .rw (.slice vc (SLn P now (js.eraseIdx f) (drS ft P.length)).ft.length vm) (SLn P now (js.eraseIdx f) (drS ft P.length)).ft.length 2 (fcl (SLn P now (js.eraseIdx f) (drS ft P.length)).ft), .rw (.slice vb (SLn P now (js.eraseIdx f) (drS ft P.length)).ats.length vk) (SLn P now (js.eraseIdx f) (drS ft P.length)).ats.length 1 (icl (SLn P now (js.eraseIdx f) (drS ft P.length)).ats), .ms (.slice va (SLn P now (js.eraseIdx f) (drS ft P.length)).L.length vj) (SLn P now (js.eraseIdx f) (drS ft P.length)).L, .ce tab (tao + i * 3) (.int .u8 (kd : Nat)), .ce tab (tao + i * 3 + 1) (.int .u8 (tp : Nat)), .ce tab (tao + i * 3 + 2) (.int .u8 (bb : Nat)), .ms (.slice na (SLn P now js (drS ft P.length)).L.length nj) (SLn P now js (drS ft P.length)).L, .rw (.slice nb (SLn P now js (drS ft P.length)).ats.length nk) (SLn P now js (drS ft P.length)).ats.length 1 (icl (SLn P now js (drS ft P.length)).ats), .rw (.slice nc (SLn P now js (drS ft P.length)).ft.length nm) (SLn P now js (drS ft P.length)).ft.length 2 (fcl (SLn P now js (drS ft P.length)).ft), .rw (.slice fa ft.length fk) ft.length 2 (fcl ft), .rw (.slice (some ⟨tab, tao, none⟩) acts.length tk) acts.length 3 (acl acts)] mb (m + 1) (putL ls (t : Int) (aj, (j : Int))) w13) := Lib.hid (E19.out.below hb)
          clear c7_0 c7_1 c7_2 c7_3 c8_0 c8_1 c8_2 c8_3 f8_0 f8_1 f8_2 f8_3 E18 E19 hb
          have EZ := Lib.hid (EnvP.keep (A := [(w11.heap.size, 80, [.int .i64 0, .int .i64 0]), (w9.heap.size, 80, [.int .i64 aj, .int .i64 (j : Nat)]), (w5.heap.size + 1, 24, [.int .i64 0, .int .i64 (t : Nat), .int .i64 0, .int .i64 (j : Nat), .slice vo 1 vq]), (w5.heap.size, 64, [.int .i64 now, .slice va (SLn P now (js.eraseIdx f) (drS ft P.length)).L.length vj, .slice vb (SLn P now (js.eraseIdx f) (drS ft P.length)).ats.length vk, .slice vc (SLn P now (js.eraseIdx f) (drS ft P.length)).ft.length vm]), (wr.heap.size, 70, [.int .u8 (kd : Nat), .int .u8 (tp : Nat), .int .u8 (bb : Nat)])]) (G' := [.ms (.slice va (SLn P now (js.eraseIdx f) (drS ft P.length)).L.length vj) (SLn P now (js.eraseIdx f) (drS ft P.length)).L, .rw (.slice vb (SLn P now (js.eraseIdx f) (drS ft P.length)).ats.length vk) (SLn P now (js.eraseIdx f) (drS ft P.length)).ats.length 1 (icl (SLn P now (js.eraseIdx f) (drS ft P.length)).ats), .rw (.slice vc (SLn P now (js.eraseIdx f) (drS ft P.length)).ft.length vm) (SLn P now (js.eraseIdx f) (drS ft P.length)).ft.length 2 (fcl (SLn P now (js.eraseIdx f) (drS ft P.length)).ft), .rw (.slice fa ft.length fk) ft.length 2 (fcl ft), .rw (.slice (some ⟨tab, tao, none⟩) acts.length tk) acts.length 3 (acl acts)]) E20.out (by intro q hq; simp only [List.mem_cons, List.not_mem_nil, or_false] at hq ⊢; rcases hq with rfl | rfl | rfl | rfl | rfl <;> simp))
          go_wp2
          go_roundg (acts.length - (i + 1))
          case rel => exact ⟨i + 1, now, P, lf.set j (lj - 1), js.eraseIdx f, putL ls (t : Int) (aj, (j : Int)), m + 1, [(gs, 75, cs3)], cs3, some ⟨gs, 0, none⟩, pk, va, vj, vb, vk, vc, vm, rfl, rfl, EZ, Lib.hid ⟨by omega, by omega, by omega⟩, HI3, HS2⟩
          case measure => exact by omega
        | some x => as_aux_lemma =>
          obtain ⟨xa, xn⟩ := x
          obtain ⟨y8, y9⟩ := HLS.out xa xn hl9
          rw [HAJ.out] at y8 y9
          have pe : prL (ls (t : Int)) = (xa, xn) := by rw [hl9]; rfl
          have ps : (ls (t : Int)).isSome = true := by rw [hl9]; rfl
          have H9 := Lib.hid hl9
          clear hl9
          go_upto_region 36 with (at_lookup; refine wpl_lookP rfl _ _ rfl E16.out rfl rfl (by omega) ?_)
          have E17 : Hid (EnvP D w [(w11.heap.size, 80, [.int .i64 xa, .int .i64 xn]), (w9.heap.size, 80, [.int .i64 aj, .int .i64 (j : Nat)]), (w5.heap.size + 1, 24, [.int .i64 0, .int .i64 (t : Nat), .int .i64 0, .int .i64 (j : Nat), .slice vo 1 vq]), (w5.heap.size, 64, [.int .i64 now, .slice va (SLn P now (js.eraseIdx f) (drS ft P.length)).L.length vj, .slice vb (SLn P now (js.eraseIdx f) (drS ft P.length)).ats.length vk, .slice vc (SLn P now (js.eraseIdx f) (drS ft P.length)).ft.length vm]), (wr.heap.size, 70, [.int .u8 (kd : Nat), .int .u8 (tp : Nat), .int .u8 (bb : Nat)]), (g5, 64, [.int .i64 now, .slice na (SLn P now js (drS ft P.length)).L.length nj, .slice nb (SLn P now js (drS ft P.length)).ats.length nk, .slice nc (SLn P now js (drS ft P.length)).ft.length nm]), (gs, 75, cs3)] [.bs (.slice vo 1 vq) [byS P j], .rw (.slice vc (SLn P now (js.eraseIdx f) (drS ft P.length)).ft.length vm) (SLn P now (js.eraseIdx f) (drS ft P.length)).ft.length 2 (fcl (SLn P now (js.eraseIdx f) (drS ft P.length)).ft), .rw (.slice vb (SLn P now (js.eraseIdx f) (drS ft P.length)).ats.length vk) (SLn P now (js.eraseIdx f) (drS ft P.length)).ats.length 1 (icl (SLn P now (js.eraseIdx f) (drS ft P.length)).ats), .ms (.slice va (SLn P now (js.eraseIdx f) (drS ft P.length)).L.length vj) (SLn P now (js.eraseIdx f) (drS ft P.length)).L, .ce tab (tao + i * 3) (.int .u8 (kd : Nat)), .ce tab (tao + i * 3 + 1) (.int .u8 (tp : Nat)), .ce tab (tao + i * 3 + 2) (.int .u8 (bb : Nat)), .ms (.slice na (SLn P now js (drS ft P.length)).L.length nj) (SLn P now js (drS ft P.length)).L, .rw (.slice nb (SLn P now js (drS ft P.length)).ats.length nk) (SLn P now js (drS ft P.length)).ats.length 1 (icl (SLn P now js (drS ft P.length)).ats), .rw (.slice nc (SLn P now js (drS ft P.length)).ft.length nm) (SLn P now js (drS ft P.length)).ft.length 2 (fcl (SLn P now js (drS ft P.length)).ft), .rw (.slice fa ft.length fk) ft.length 2 (fcl ft), .rw (.slice (some ⟨tab, tao, none⟩) acts.length tk) acts.length 3 (acl acts)] mb m ls _) := Lib.hid ((E16.out.push 80 [.int .i64 xa, .int .i64 xn] (w11.heap.size) (by simp)))
          clear E16
          generalize w11.alloc (.cells #[.int .i64 xa, .int .i64 xn] 80) = w12 at *
          have HI3 : Hid (ScI ft (i + 1) now P (lf.set j (lj - 1)) (js.eraseIdx f) (putL ls (t : Int) (aj, (j : Int)))) := Lib.hid (by have h := HI2.out; rw [HLJ.out, HAJ.out] at h; exact h)
          have b5 := E17.out.bx 1 rfl
          have c5_0 := b5.cell 0 rfl
          have c5_1 := b5.cell 1 rfl
          clear b5
          have b6 := E17.out.bx 0 rfl
          have c6_0 := b6.cell 0 rfl
          have c6_1 := b6.cell 1 rfl
          clear b6
          have u6 : decide (aj < xa) = false := decide_eq_false (by omega)
          by_cases hxe : xa = aj
          · as_aux_lemma =>
              have u7 : (xa == aj) = true := beq_iff_eq.2 hxe
              have u8 : decide ((j : Int) < xn) = false := decide_eq_false (by omega)
              have HXE := Lib.hid hxe
              clear hxe
              go_upto_region 38 with (fail)
              go_wp2_with (at_mapUpdate; refine wpl_updP rfl _ _ _ rfl E17.out rfl (by omega) rfl (by omega) rfl ?_)
              intro wu EU
              have E18 : Hid (EnvP D w [(w11.heap.size, 80, [.int .i64 xa, .int .i64 xn]), (w9.heap.size, 80, [.int .i64 aj, .int .i64 (j : Nat)]), (w5.heap.size + 1, 24, [.int .i64 0, .int .i64 (t : Nat), .int .i64 0, .int .i64 (j : Nat), .slice vo 1 vq]), (w5.heap.size, 64, [.int .i64 now, .slice va (SLn P now (js.eraseIdx f) (drS ft P.length)).L.length vj, .slice vb (SLn P now (js.eraseIdx f) (drS ft P.length)).ats.length vk, .slice vc (SLn P now (js.eraseIdx f) (drS ft P.length)).ft.length vm]), (wr.heap.size, 70, [.int .u8 (kd : Nat), .int .u8 (tp : Nat), .int .u8 (bb : Nat)]), (g5, 64, [.int .i64 now, .slice na (SLn P now js (drS ft P.length)).L.length nj, .slice nb (SLn P now js (drS ft P.length)).ats.length nk, .slice nc (SLn P now js (drS ft P.length)).ft.length nm]), (gs, 75, cs3)] [.bs (.slice vo 1 vq) [byS P j], .rw (.slice vc (SLn P now (js.eraseIdx f) (drS ft P.length)).ft.length vm) (SLn P now (js.eraseIdx f) (drS ft P.length)).ft.length 2 (fcl (SLn P now (js.eraseIdx f) (drS ft P.length)).ft), .rw (.slice vb (SLn P now (js.eraseIdx f) (drS ft P.length)).ats.length vk) (SLn P now (js.eraseIdx f) (drS ft P.length)).ats.length 1 (icl (SLn P now (js.eraseIdx f) (drS ft P.length)).ats), .ms (.slice va (SLn P now (js.eraseIdx f) (drS ft P.length)).L.length vj) (SLn P now (js.eraseIdx f) (drS ft P.length)).L, .ce tab (tao + i * 3) (.int .u8 (kd : Nat)), .ce tab (tao + i * 3 + 1) (.int .u8 (tp : Nat)), .ce tab (tao + i * 3 + 2) (.int .u8 (bb : Nat)), .ms (.slice na (SLn P now js (drS ft P.length)).L.length nj) (SLn P now js (drS ft P.length)).L, .rw (.slice nb (SLn P now js (drS ft P.length)).ats.length nk) (SLn P now js (drS ft P.length)).ats.length 1 (icl (SLn P now js (drS ft P.length)).ats), .rw (.slice nc (SLn P now js (drS ft P.length)).ft.length nm) (SLn P now js (drS ft P.length)).ft.length 2 (fcl (SLn P now js (drS ft P.length)).ft), .rw (.slice fa ft.length fk) ft.length 2 (fcl ft), .rw (.slice (some ⟨tab, tao, none⟩) acts.length tk) acts.length 3 (acl acts)] mb (m + 1) (putL ls (t : Int) (aj, (j : Int))) wu) := EU
              clear c5_0 c5_1 c6_0 c6_1 E17 EU
              have b7 := E18.out.bx 3 rfl
              have c7_0 := b7.cell 0 rfl
              have c7_1 := b7.cell 1 rfl
              have c7_2 := b7.cell 2 rfl
              have c7_3 := b7.cell 3 rfl
              clear b7
              have b8 := E18.out.bx 5 rfl
              have c8_0 := b8.cell 0 rfl
              have c8_1 := b8.cell 1 rfl
              have c8_2 := b8.cell 2 rfl
              have c8_3 := b8.cell 3 rfl
              have f8_0 := b8.frozen 0
              have f8_1 := b8.frozen 1
              have f8_2 := b8.frozen 2
              have f8_3 := b8.frozen 3
              clear b8
              go_wp2_with fail
              have E19 : Hid (EnvP D w [(w11.heap.size, 80, [.int .i64 xa, .int .i64 xn]), (w9.heap.size, 80, [.int .i64 aj, .int .i64 (j : Nat)]), (w5.heap.size + 1, 24, [.int .i64 0, .int .i64 (t : Nat), .int .i64 0, .int .i64 (j : Nat), .slice vo 1 vq]), (w5.heap.size, 64, [.int .i64 now, .slice va (SLn P now (js.eraseIdx f) (drS ft P.length)).L.length vj, .slice vb (SLn P now (js.eraseIdx f) (drS ft P.length)).ats.length vk, .slice vc (SLn P now (js.eraseIdx f) (drS ft P.length)).ft.length vm]), (wr.heap.size, 70, [.int .u8 (kd : Nat), .int .u8 (tp : Nat), .int .u8 (bb : Nat)]), (g5, 64, [.int .i64 now, .slice va (SLn P now (js.eraseIdx f) (drS ft P.length)).L.length vj, .slice vb (SLn P now (js.eraseIdx f) (drS ft P.length)).ats.length vk, .slice vc (SLn P now (js.eraseIdx f) (drS ft P.length)).ft.length vm]), (gs, 75, cs3)] [.bs (.slice vo 1 vq) [byS P j], .rw (.slice vc (SLn P now (js.eraseIdx f) (drS ft P.length)).ft.length vm) (SLn P now (js.eraseIdx f) (drS ft P.length)).ft.length 2 (fcl (SLn P now (js.eraseIdx f) (drS ft P.length)).ft), .rw (.slice vb (SLn P now (js.eraseIdx f) (drS ft P.length)).ats.length vk) (SLn P now (js.eraseIdx f) (drS ft P.length)).ats.length 1 (icl (SLn P now (js.eraseIdx f) (drS ft P.length)).ats), .ms (.slice va (SLn P now (js.eraseIdx f) (drS ft P.length)).L.length vj) (SLn P now (js.eraseIdx f) (drS ft P.length)).L, .ce tab (tao + i * 3) (.int .u8 (kd : Nat)), .ce tab (tao + i * 3 + 1) (.int .u8 (tp : Nat)), .ce tab (tao + i * 3 + 2) (.int .u8 (bb : Nat)), .ms (.slice na (SLn P now js (drS ft P.length)).L.length nj) (SLn P now js (drS ft P.length)).L, .rw (.slice nb (SLn P now js (drS ft P.length)).ats.length nk) (SLn P now js (drS ft P.length)).ats.length 1 (icl (SLn P now js (drS ft P.length)).ats), .rw (.slice nc (SLn P now js (drS ft P.length)).ft.length nm) (SLn P now js (drS ft P.length)).ft.length 2 (fcl (SLn P now js (drS ft P.length)).ft), .rw (.slice fa ft.length fk) ft.length 2 (fcl ft), .rw (.slice (some ⟨tab, tao, none⟩) acts.length tk) acts.length 3 (acl acts)] mb (m + 1) (putL ls (t : Int) (aj, (j : Int))) _) := Lib.hid (((((E18.out.set 5 0 (.int .i64 now) rfl).set 5 1 (.slice va (SLn P now (js.eraseIdx f) (drS ft P.length)).L.length vj) rfl).set 5 2 (.slice vb (SLn P now (js.eraseIdx f) (drS ft P.length)).ats.length vk) rfl).set 5 3 (.slice vc (SLn P now (js.eraseIdx f) (drS ft P.length)).ft.length vm) rfl))
              refine (Valid_sc HI3.out (E19.out.fc 3 rfl) (E19.out.fc 2 rfl) (E19.out.fc 1 rfl)).mono ?_
              rintro e w13 ⟨rfl, hb⟩
              have E20 : Hid (EnvP D w [(w11.heap.size, 80, [.int .i64 xa, .int .i64 xn]), (w9.heap.size, 80, [.int .i64 aj, .int .i64 (j : Nat)]), (w5.heap.size + 1, 24, [.int .i64 0, .int .i64 (t : Nat), .int .i64 0, .int .i64 (j : Nat), .slice vo 1 vq]), (w5.heap.size, 64, [.int .i64 now, .slice va (SLn P now (js.eraseIdx f) (drS ft P.length)).L.length vj, .slice vb (SLn P now (js.eraseIdx f) (drS ft P.length)).ats.length vk, .slice vc (SLn P now (js.eraseIdx f) (drS ft P.length)).ft.length vm]), (wr.heap.size, 70, [.int .u8 (kd : Nat), .int .u8 (tp : Nat), .int .u8 (bb : Nat)]), (g5, 64, [.int .i64 now, .slice va (SLn P now (js.eraseIdx f) (drS ft P.length)).L.length vj, .slice vb (SLn P now (js.eraseIdx f) (drS ft P.length)).ats.length vk, .slice vc (SLn P now (js.eraseIdx f) (drS ft P.length)).ft.length vm]), (gs, 75, cs3)] [.bs (.slice vo 1 vq) [byS P j], .rw (.slice vc (SLn P now (js.eraseIdx f) (drS ft P.length)).ft.length vm) (SLn P now (js.eraseIdx f) (drS ft P.length)).ft.length 2 (fcl (SLn P now (js.eraseIdx f) (drS ft P.length)).ft), .rw (.slice vb (SLn P now (js.eraseIdx f) (drS ft P.length)).ats.length vk) (SLn P now (js.eraseIdx f) (drS ft P.length)).ats.length 1 (icl (SLn P now (js.eraseIdx f) (drS ft P.length)).ats), .ms (.slice va (SLn P now (js.eraseIdx f) (drS ft P.length)).L.length vj) (SLn P now (js.eraseIdx f) (drS ft P.length)).L, .ce tab (tao + i * 3) (.int .u8 (kd : Nat)), .ce tab (tao + i * 3 + 1) (.int .u8 (tp : Nat)), .ce tab (tao + i * 3 + 2) (.int .u8 (bb : Nat)), .ms (.slice na (SLn P now js (drS ft P.length)).L.length nj) (SLn P now js (drS ft P.length)).L, .rw (.slice nb (SLn P now js (drS ft P.length)).ats.length nk) (SLn P now js (drS ft P.length)).ats.length 1 (icl (SLn P now js (drS ft P.length)).ats), .rw (.slice nc (SLn P now js (drS ft P.length)).ft.length nm) (SLn P now js (drS ft P.length)).ft.length 2 (fcl (SLn P now js (drS ft P.length)).ft), .rw (.slice fa ft.length fk) ft.length 2 (fcl ft), .rw (.slice (some ⟨tab, tao, none⟩) acts.length tk) acts.length 3 (acl acts)] mb (m + 1) (putL ls (t : Int) (aj, (j : Int))) w13) := Lib.hid (E19.out.below hb)
              clear c7_0 c7_1 c7_2 c7_3 c8_0 c8_1 c8_2 c8_3 f8_0 f8_1 f8_2 f8_3 E18 E19 hb
              have EZ := Lib.hid (EnvP.keep (A := [(w11.heap.size, 80, [.int .i64 xa, .int .i64 xn]), (w9.heap.size, 80, [.int .i64 aj, .int .i64 (j : Nat)]), (w5.heap.size + 1, 24, [.int .i64 0, .int .i64 (t : Nat), .int .i64 0, .int .i64 (j : Nat), .slice vo 1 vq]), (w5.heap.size, 64, [.int .i64 now, .slice va (SLn P now (js.eraseIdx f) (drS ft P.length)).L.length vj, .slice vb (SLn P now (js.eraseIdx f) (drS ft P.length)).ats.length vk, .slice vc (SLn P now (js.eraseIdx f) (drS ft P.length)).ft.length vm]), (wr.heap.size, 70, [.int .u8 (kd : Nat), .int .u8 (tp : Nat), .int .u8 (bb : Nat)])]) (G' := [.ms (.slice va (SLn P now (js.eraseIdx f) (drS ft P.length)).L.length vj) (SLn P now (js.eraseIdx f) (drS ft P.length)).L, .rw (.slice vb (SLn P now (js.eraseIdx f) (drS ft P.length)).ats.length vk) (SLn P now (js.eraseIdx f) (drS ft P.length)).ats.length 1 (icl (SLn P now (js.eraseIdx f) (drS ft P.length)).ats), .rw (.slice vc (SLn P now (js.eraseIdx f) (drS ft P.length)).ft.length vm) (SLn P now (js.eraseIdx f) (drS ft P.length)).ft.length 2 (fcl (SLn P now (js.eraseIdx f) (drS ft P.length)).ft), .rw (.slice fa ft.length fk) ft.length 2 (fcl ft), .rw (.slice (some ⟨tab, tao, none⟩) acts.length tk) acts.length 3 (acl acts)]) E20.out (by intro q hq; simp only [List.mem_cons, List.not_mem_nil, or_false] at hq ⊢; rcases hq with rfl | rfl | rfl | rfl | rfl <;> simp))
              go_wp2
              go_roundg (acts.length - (i + 1))
              case rel => exact ⟨i + 1, now, P, lf.set j (lj - 1), js.eraseIdx f, putL ls (t : Int) (aj, (j : Int)), m + 1, [(gs, 75, cs3)], cs3, some ⟨gs, 0, none⟩, pk, va, vj, vb, vk, vc, vm, rfl, rfl, EZ, Lib.hid ⟨by omega, by omega, by omega⟩, HI3, HS2⟩
              case measure => exact by omega
          · as_aux_lemma =>
              have u7 : (xa == aj) = false := beq_eq_false_iff_ne.2 hxe
              have HXE := Lib.hid hxe
              clear hxe
              go_upto_region 38 with (fail)
              go_wp2_with (at_mapUpdate; refine wpl_updP rfl _ _ _ rfl E17.out rfl (by omega) rfl (by omega) rfl ?_)
              intro wu EU
              have E18 : Hid (EnvP D w [(w11.heap.size, 80, [.int .i64 xa, .int .i64 xn]), (w9.heap.size, 80, [.int .i64 aj, .int .i64 (j : Nat)]), (w5.heap.size + 1, 24, [.int .i64 0, .int .i64 (t : Nat), .int .i64 0, .int .i64 (j : Nat), .slice vo 1 vq]), (w5.heap.size, 64, [.int .i64 now, .slice va (SLn P now (js.eraseIdx f) (drS ft P.length)).L.length vj, .slice vb (SLn P now (js.eraseIdx f) (drS ft P.length)).ats.length vk, .slice vc (SLn P now (js.eraseIdx f) (drS ft P.length)).ft.length vm]), (wr.heap.size, 70, [.int .u8 (kd : Nat), .int .u8 (tp : Nat), .int .u8 (bb : Nat)]), (g5, 64, [.int .i64 now, .slice na (SLn P now js (drS ft P.length)).L.length nj, .slice nb (SLn P now js (drS ft P.length)).ats.length nk, .slice nc (SLn P now js (drS ft P.length)).ft.length nm]), (gs, 75, cs3)] [.bs (.slice vo 1 vq) [byS P j], .rw (.slice vc (SLn P now (js.eraseIdx f) (drS ft P.length)).ft.length vm) (SLn P now (js.eraseIdx f) (drS ft P.length)).ft.length 2 (fcl (SLn P now (js.eraseIdx f) (drS ft P.length)).ft), .rw (.slice vb (SLn P now (js.eraseIdx f) (drS ft P.length)).ats.length vk) (SLn P now (js.eraseIdx f) (drS ft P.length)).ats.length 1 (icl (SLn P now (js.eraseIdx f) (drS ft P.length)).ats), .ms (.slice va (SLn P now (js.eraseIdx f) (drS ft P.length)).L.length vj) (SLn P now (js.eraseIdx f) (drS ft P.length)).L, .ce tab (tao + i * 3) (.int .u8 (kd : Nat)), .ce tab (tao + i * 3 + 1) (.int .u8 (tp : Nat)), .ce tab (tao + i * 3 + 2) (.int .u8 (bb : Nat)), .ms (.slice na (SLn P now js (drS ft P.length)).L.length nj) (SLn P now js (drS ft P.length)).L, .rw (.slice nb (SLn P now js (drS ft P.length)).ats.length nk) (SLn P now js (drS ft P.length)).ats.length 1 (icl (SLn P now js (drS ft P.length)).ats), .rw (.slice nc (SLn P now js (drS ft P.length)).ft.length nm) (SLn P now js (drS ft P.length)).ft.length 2 (fcl (SLn P now js (drS ft P.length)).ft), .rw (.slice fa ft.length fk) ft.length 2 (fcl ft), .rw (.slice (some ⟨tab, tao, none⟩) acts.length tk) acts.length 3 (acl acts)] mb (m + 1) (putL ls (t : Int) (aj, (j : Int))) wu) := EU
              clear c5_0 c5_1 c6_0 c6_1 E17 EU
              have b7 := E18.out.bx 3 rfl
              have c7_0 := b7.cell 0 rfl
              have c7_1 := b7.cell 1 rfl
              have c7_2 := b7.cell 2 rfl
              have c7_3 := b7.cell 3 rfl
              clear b7
              have b8 := E18.out.bx 5 rfl
              have c8_0 := b8.cell 0 rfl
              have c8_1 := b8.cell 1 rfl
              have c8_2 := b8.cell 2 rfl
              have c8_3 := b8.cell 3 rfl
              have f8_0 := b8.frozen 0
              have f8_1 := b8.frozen 1
              have f8_2 := b8.frozen 2
              have f8_3 := b8.frozen 3
              clear b8
              go_wp2_with fail
              have E19 : Hid (EnvP D w [(w11.heap.size, 80, [.int .i64 xa, .int .i64 xn]), (w9.heap.size, 80, [.int .i64 aj, .int .i64 (j : Nat)]), (w5.heap.size + 1, 24, [.int .i64 0, .int .i64 (t : Nat), .int .i64 0, .int .i64 (j : Nat), .slice vo 1 vq]), (w5.heap.size, 64, [.int .i64 now, .slice va (SLn P now (js.eraseIdx f) (drS ft P.length)).L.length vj, .slice vb (SLn P now (js.eraseIdx f) (drS ft P.length)).ats.length vk, .slice vc (SLn P now (js.eraseIdx f) (drS ft P.length)).ft.length vm]), (wr.heap.size, 70, [.int .u8 (kd : Nat), .int .u8 (tp : Nat), .int .u8 (bb : Nat)]), (g5, 64, [.int .i64 now, .slice va (SLn P now (js.eraseIdx f) (drS ft P.length)).L.length vj, .slice vb (SLn P now (js.eraseIdx f) (drS ft P.length)).ats.length vk, .slice vc (SLn P now (js.eraseIdx f) (drS ft P.length)).ft.length vm]), (gs, 75, cs3)] [.bs (.slice vo 1 vq) [byS P j], .rw (.slice vc (SLn P now (js.eraseIdx f) (drS ft P.length)).ft.length vm) (SLn P now (js.eraseIdx f) (drS ft P.length)).ft.length 2 (fcl (SLn P now (js.eraseIdx f) (drS ft P.length)).ft), .rw (.slice vb (SLn P now (js.eraseIdx f) (drS ft P.length)).ats.length vk) (SLn P now (js.eraseIdx f) (drS ft P.length)).ats.length 1 (icl (SLn P now (js.eraseIdx f) (drS ft P.length)).ats), .ms (.slice va (SLn P now (js.eraseIdx f) (drS ft P.length)).L.length vj) (SLn P now (js.eraseIdx f) (drS ft P.length)).L, .ce tab (tao + i * 3) (.int .u8 (kd : Nat)), .ce tab (tao + i * 3 + 1) (.int .u8 (tp : Nat)), .ce tab (tao + i * 3 + 2) (.int .u8 (bb : Nat)), .ms (.slice na (SLn P now js (drS ft P.length)).L.length nj) (SLn P now js (drS ft P.length)).L, .rw (.slice nb (SLn P now js (drS ft P.length)).ats.length nk) (SLn P now js (drS ft P.length)).ats.length 1 (icl (SLn P now js (drS ft P.length)).ats), .rw (.slice nc (SLn P now js (drS ft P.length)).ft.length nm) (SLn P now js (drS ft P.length)).ft.length 2 (fcl (SLn P now js (drS ft P.length)).ft), .rw (.slice fa ft.length fk) ft.length 2 (fcl ft), .rw (.slice (some ⟨tab, tao, none⟩) acts.length tk) acts.length 3 (acl acts)] mb (m + 1) (putL ls (t : Int) (aj, (j : Int))) _) := Lib.hid (((((E18.out.set 5 0 (.int .i64 now) rfl).set 5 1 (.slice va (SLn P now (js.eraseIdx f) (drS ft P.length)).L.length vj) rfl).set 5 2 (.slice vb (SLn P now (js.eraseIdx f) (drS ft P.length)).ats.length vk) rfl).set 5 3 (.slice vc (SLn P now (js.eraseIdx f) (drS ft P.length)).ft.length vm) rfl))
              refine (Valid_sc HI3.out (E19.out.fc 3 rfl) (E19.out.fc 2 rfl) (E19.out.fc 1 rfl)).mono ?_
              rintro e w13 ⟨rfl, hb⟩
              have E20 : Hid (EnvP D w [(w11.heap.size, 80, [.int .i64 xa, .int .i64 xn]), (w9.heap.size, 80, [.int .i64 aj, .int .i64 (j : Nat)]), (w5.heap.size + 1, 24, [.int .i64 0, .int .i64 (t : Nat), .int .i64 0, .int .i64 (j : Nat), .slice vo 1 vq]), (w5.heap.size, 64, [.int .i64 now, .slice va (SLn P now (js.eraseIdx f) (drS ft P.length)).L.length vj, .slice vb (SLn P now (js.eraseIdx f) (drS ft P.length)).ats.length vk, .slice vc (SLn P now (js.eraseIdx f) (drS ft P.length)).ft.length vm]), (wr.heap.size, 70, [.int .u8 (kd : Nat), .int .u8 (tp : Nat), .int .u8 (bb : Nat)]), (g5, 64, [.int .i64 now, .slice va (SLn P now (js.eraseIdx f) (drS ft P.length)).L.length vj, .slice vb (SLn P now (js.eraseIdx f) (drS ft P.length)).ats.length vk, .slice vc (SLn P now (js.eraseIdx f) (drS ft P.length)).ft.length vm]), (gs, 75, cs3)] [.bs (.slice vo 1 vq) [byS P j], .rw (.slice vc (SLn P now (js.eraseIdx f) (drS ft P.length)).ft.length vm) (SLn P now (js.eraseIdx f) (drS ft P.length)).ft.length 2 (fcl (SLn P now (js.eraseIdx f) (drS ft P.length)).ft), .rw (.slice vb (SLn P now (js.eraseIdx f) (drS ft P.length)).ats.length vk) (SLn P now (js.eraseIdx f) (drS ft P.length)).ats.length 1 (icl (SLn P now (js.eraseIdx f) (drS ft P.length)).ats), .ms (.slice va (SLn P now (js.eraseIdx f) (drS ft P.length)).L.length vj) (SLn P now (js.eraseIdx f) (drS ft P.length)).L, .ce tab (tao + i * 3) (.int .u8 (kd : Nat)), .ce tab (tao + i * 3 + 1) (.int .u8 (tp : Nat)), .ce tab (tao + i * 3 + 2) (.int .u8 (bb : Nat)), .ms (.slice na (SLn P now js (drS ft P.length)).L.length nj) (SLn P now js (drS ft P.length)).L, .rw (.slice nb (SLn P now js (drS ft P.length)).ats.length nk) (SLn P now js (drS ft P.length)).ats.length 1 (icl (SLn P now js (drS ft P.length)).ats), .rw (.slice nc (SLn P now js (drS ft P.length)).ft.length nm) (SLn P now js (drS ft P.length)).ft.length 2 (fcl (SLn P now js (drS ft P.length)).ft), .rw (.slice fa ft.length fk) ft.length 2 (fcl ft), .rw (.slice (some ⟨tab, tao, none⟩) acts.length tk) acts.length 3 (acl acts)] mb (m + 1) (putL ls (t : Int) (aj, (j : Int))) w13) := Lib.hid (E19.out.below hb)
              clear c7_0 c7_1 c7_2 c7_3 c8_0 c8_1 c8_2 c8_3 f8_0 f8_1 f8_2 f8_3 E18 E19 hb
              have EZ := Lib.hid (EnvP.keep (A := [(w11.heap.size, 80, [.int .i64 xa, .int .i64 xn]), (w9.heap.size, 80, [.int .i64 aj, .int .i64 (j : Nat)]), (w5.heap.size + 1, 24, [.int .i64 0, .int .i64 (t : Nat), .int .i64 0, .int .i64 (j : Nat), .slice vo 1 vq]), (w5.heap.size, 64, [.int .i64 now, .slice va (SLn P now (js.eraseIdx f) (drS ft P.length)).L.length vj, .slice vb (SLn P now (js.eraseIdx f) (drS ft P.length)).ats.length vk, .slice vc (SLn P now (js.eraseIdx f) (drS ft P.length)).ft.length vm]), (wr.heap.size, 70, [.int .u8 (kd : Nat), .int .u8 (tp : Nat), .int .u8 (bb : Nat)])]) (G' := [.ms (.slice va (SLn P now (js.eraseIdx f) (drS ft P.length)).L.length vj) (SLn P now (js.eraseIdx f) (drS ft P.length)).L, .rw (.slice vb (SLn P now (js.eraseIdx f) (drS ft P.length)).ats.length vk) (SLn P now (js.eraseIdx f) (drS ft P.length)).ats.length 1 (icl (SLn P now (js.eraseIdx f) (drS ft P.length)).ats), .rw (.slice vc (SLn P now (js.eraseIdx f) (drS ft P.length)).ft.length vm) (SLn P now (js.eraseIdx f) (drS ft P.length)).ft.length 2 (fcl (SLn P now (js.eraseIdx f) (drS ft P.length)).ft), .rw (.slice fa ft.length fk) ft.length 2 (fcl ft), .rw (.slice (some ⟨tab, tao, none⟩) acts.length tk) acts.length 3 (acl acts)]) E20.out (by intro q hq; simp only [List.mem_cons, List.not_mem_nil, or_false] at hq ⊢; rcases hq with rfl | rfl | rfl | rfl | rfl <;> simp))
              go_wp2
              go_roundg (acts.length - (i + 1))
              case rel => exact ⟨i + 1, now, P, lf.set j (lj - 1), js.eraseIdx f, putL ls (t : Int) (aj, (j : Int)), m + 1, [(gs, 75, cs3)], cs3, some ⟨gs, 0, none⟩, pk, va, vj, vb, vk, vc, vm, rfl, rfl, EZ, Lib.hid ⟨by omega, by omega, by omega⟩, HI3, HS2⟩
              case measure => exact by omega

    · as_aux_lemma =>
        have e2 : (kd : Int) % 3 = 2 := by omega
        have e2n : kd % 3 = 2 := hk3.symm
        have HK3 := Lib.hid hk3
        clear hk3
        obtain ⟨g1, g2, g3, g4⟩ := HI.out.go hi100 (b := bb) (by omega)
        have G1 := Lib.hid g1
        have G2 := Lib.hid g2
        have HI2 := Lib.hid g4
        clear g1 g2 g3 g4
        have e5 : wrap64 (now + (bb : Int)) = now + (bb : Int) := IntWalk.wrap64_in _ (by omega)
        have e5w : IntKind.i64.wrap (bb : Int) = (bb : Int) := by rw [IntKind.wrap_i64]; omega
        have E7 : Hid (EnvP D w ((wr.heap.size, 70, [.int .u8 (kd : Nat), .int .u8 (tp : Nat), .int .u8 (bb : Nat)]) :: (g5, 64, [.int .i64 now, .slice na (SLn P now js (drS ft P.length)).L.length nj, .slice nb (SLn P now js (drS ft P.length)).ats.length nk, .slice nc (SLn P now js (drS ft P.length)).ft.length nm]) :: sg) [.ce tab (tao + i * 3) (.int .u8 (kd : Nat)), .ce tab (tao + i * 3 + 1) (.int .u8 (tp : Nat)), .ce tab (tao + i * 3 + 2) (.int .u8 (bb : Nat)), .ms (.slice na (SLn P now js (drS ft P.length)).L.length nj) (SLn P now js (drS ft P.length)).L, .rw (.slice nb (SLn P now js (drS ft P.length)).ats.length nk) (SLn P now js (drS ft P.length)).ats.length 1 (icl (SLn P now js (drS ft P.length)).ats), .rw (.slice nc (SLn P now js (drS ft P.length)).ft.length nm) (SLn P now js (drS ft P.length)).ft.length 2 (fcl (SLn P now js (drS ft P.length)).ft), .rw (.slice fa ft.length fk) ft.length 2 (fcl ft), .rw (.slice (some ⟨tab, tao, none⟩) acts.length tk) acts.length 3 (acl acts)] mb m ls _) := Lib.hid ((E6.out.push 70 [.int .u8 (kd : Nat), .int .u8 (tp : Nat), .int .u8 (bb : Nat)] (wr.heap.size) (by simp)))
        have b1 := E7.out.bx 1 rfl
        have c1_0 := b1.cell 0 rfl
        have c1_1 := b1.cell 1 rfl
        have c1_2 := b1.cell 2 rfl
        have c1_3 := b1.cell 3 rfl
        clear b1
        have b2 := E7.out.bx 0 rfl
        have c2_2 := b2.cell 2 rfl
        clear b2
        go_wp2_with fail
        refine (Go_sc HI.out G1.out (by have := G2.out; omega) (E7.out.fc 3 rfl) (E7.out.fc 4 rfl) (E7.out.fc 5 rfl)).mono ?_
        rintro e w4 ⟨⟨va, vj, vb, vk, vc, vm, rfl, v1, v2, v3⟩, hb⟩
        have E8 : Hid (EnvP D w ((wr.heap.size, 70, [.int .u8 (kd : Nat), .int .u8 (tp : Nat), .int .u8 (bb : Nat)]) :: (g5, 64, [.int .i64 now, .slice na (SLn P now js (drS ft P.length)).L.length nj, .slice nb (SLn P now js (drS ft P.length)).ats.length nk, .slice nc (SLn P now js (drS ft P.length)).ft.length nm]) :: sg) [.rw (.slice vc (SLn P (now + (bb : Nat)) js (drS ft P.length)).ft.length vm) (SLn P (now + (bb : Nat)) js (drS ft P.length)).ft.length 2 (fcl (SLn P (now + (bb : Nat)) js (drS ft P.length)).ft), .rw (.slice vb (SLn P (now + (bb : Nat)) js (drS ft P.length)).ats.length vk) (SLn P (now + (bb : Nat)) js (drS ft P.length)).ats.length 1 (icl (SLn P (now + (bb : Nat)) js (drS ft P.length)).ats), .ms (.slice va (SLn P (now + (bb : Nat)) js (drS ft P.length)).L.length vj) (SLn P (now + (bb : Nat)) js (drS ft P.length)).L, .ce tab (tao + i * 3) (.int .u8 (kd : Nat)), .ce tab (tao + i * 3 + 1) (.int .u8 (tp : Nat)), .ce tab (tao + i * 3 + 2) (.int .u8 (bb : Nat)), .ms (.slice na (SLn P now js (drS ft P.length)).L.length nj) (SLn P now js (drS ft P.length)).L, .rw (.slice nb (SLn P now js (drS ft P.length)).ats.length nk) (SLn P now js (drS ft P.length)).ats.length 1 (icl (SLn P now js (drS ft P.length)).ats), .rw (.slice nc (SLn P now js (drS ft P.length)).ft.length nm) (SLn P now js (drS ft P.length)).ft.length 2 (fcl (SLn P now js (drS ft P.length)).ft), .rw (.slice fa ft.length fk) ft.length 2 (fcl ft), .rw (.slice (some ⟨tab, tao, none⟩) acts.length tk) acts.length 3 (acl acts)] mb m ls w4) := Lib.hid (E7.out.got (E7.out.got (E7.out.got (E7.out.below hb) (.ms (.slice va (SLn P (now + (bb : Nat)) js (drS ft P.length)).L.length vj) (SLn P (now + (bb : Nat)) js (drS ft P.length)).L) v1.out) (.rw (.slice vb (SLn P (now + (bb : Nat)) js (drS ft P.length)).ats.length vk) (SLn P (now + (bb : Nat)) js (drS ft P.length)).ats.length 1 (icl (SLn P (now + (bb : Nat)) js (drS ft P.length)).ats)) v2.out) (.rw (.slice vc (SLn P (now + (bb : Nat)) js (drS ft P.length)).ft.length vm) (SLn P (now + (bb : Nat)) js (drS ft P.length)).ft.length 2 (fcl (SLn P (now + (bb : Nat)) js (drS ft P.length)).ft)) v3.out)
        clear u0 u1 u2 c1_0 c1_1 c1_2 c1_3 c2_2 E6 E7 hb v1 v2 v3
        have E9 : Hid (EnvP D w ((w4.heap.size, 64, [.int .i64 (now + (bb : Nat)), .slice va (SLn P (now + (bb : Nat)) js (drS ft P.length)).L.length vj, .slice vb (SLn P (now + (bb : Nat)) js (drS ft P.length)).ats.length vk, .slice vc (SLn P (now + (bb : Nat)) js (drS ft P.length)).ft.length vm]) :: (wr.heap.size, 70, [.int .u8 (kd : Nat), .int .u8 (tp : Nat), .int .u8 (bb : Nat)]) :: (g5, 64, [.int .i64 now, .slice na (SLn P now js (drS ft P.length)).L.length nj, .slice nb (SLn P now js (drS ft P.length)).ats.length nk, .slice nc (SLn P now js (drS ft P.length)).ft.length nm]) :: sg) [.rw (.slice vc (SLn P (now + (bb : Nat)) js (drS ft P.length)).ft.length vm) (SLn P (now + (bb : Nat)) js (drS ft P.length)).ft.length 2 (fcl (SLn P (now + (bb : Nat)) js (drS ft P.length)).ft), .rw (.slice vb (SLn P (now + (bb : Nat)) js (drS ft P.length)).ats.length vk) (SLn P (now + (bb : Nat)) js (drS ft P.length)).ats.length 1 (icl (SLn P (now + (bb : Nat)) js (drS ft P.length)).ats), .ms (.slice va (SLn P (now + (bb : Nat)) js (drS ft P.length)).L.length vj) (SLn P (now + (bb : Nat)) js (drS ft P.length)).L, .ce tab (tao + i * 3) (.int .u8 (kd : Nat)), .ce tab (tao + i * 3 + 1) (.int .u8 (tp : Nat)), .ce tab (tao + i * 3 + 2) (.int .u8 (bb : Nat)), .ms (.slice na (SLn P now js (drS ft P.length)).L.length nj) (SLn P now js (drS ft P.length)).L, .rw (.slice nb (SLn P now js (drS ft P.length)).ats.length nk) (SLn P now js (drS ft P.length)).ats.length 1 (icl (SLn P now js (drS ft P.length)).ats), .rw (.slice nc (SLn P now js (drS ft P.length)).ft.length nm) (SLn P now js (drS ft P.length)).ft.length 2 (fcl (SLn P now js (drS ft P.length)).ft), .rw (.slice fa ft.length fk) ft.length 2 (fcl ft), .rw (.slice (some ⟨tab, tao, none⟩) acts.length tk) acts.length 3 (acl acts)] mb m ls _) := Lib.hid ((E8.out.push 64 [.int .i64 (now + (bb : Nat)), .slice va (SLn P (now + (bb : Nat)) js (drS ft P.length)).L.length vj, .slice vb (SLn P (now + (bb : Nat)) js (drS ft P.length)).ats.length vk, .slice vc (SLn P (now + (bb : Nat)) js (drS ft P.length)).ft.length vm] (w4.heap.size) (by simp)))
        have b3 := E9.out.bx 2 rfl
        have c3_0 := b3.cell 0 rfl
        have c3_1 := b3.cell 1 rfl
        have c3_2 := b3.cell 2 rfl
        have c3_3 := b3.cell 3 rfl
        have f3_0 := b3.frozen 0
        have f3_1 := b3.frozen 1
        have f3_2 := b3.frozen 2
        have f3_3 := b3.frozen 3
        clear b3
        go_wp2_with fail
        have E10 : Hid (EnvP D w ((w4.heap.size, 64, [.int .i64 (now + (bb : Nat)), .slice va (SLn P (now + (bb : Nat)) js (drS ft P.length)).L.length vj, .slice vb (SLn P (now + (bb : Nat)) js (drS ft P.length)).ats.length vk, .slice vc (SLn P (now + (bb : Nat)) js (drS ft P.length)).ft.length vm]) :: (wr.heap.size, 70, [.int .u8 (kd : Nat), .int .u8 (tp : Nat), .int .u8 (bb : Nat)]) :: (g5, 64, [.int .i64 (now + (bb : Nat)), .slice va (SLn P (now + (bb : Nat)) js (drS ft P.length)).L.length vj, .slice vb (SLn P (now + (bb : Nat)) js (drS ft P.length)).ats.length vk, .slice vc (SLn P (now + (bb : Nat)) js (drS ft P.length)).ft.length vm]) :: sg) [.rw (.slice vc (SLn P (now + (bb : Nat)) js (drS ft P.length)).ft.length vm) (SLn P (now + (bb : Nat)) js (drS ft P.length)).ft.length 2 (fcl (SLn P (now + (bb : Nat)) js (drS ft P.length)).ft), .rw (.slice vb (SLn P (now + (bb : Nat)) js (drS ft P.length)).ats.length vk) (SLn P (now + (bb : Nat)) js (drS ft P.length)).ats.length 1 (icl (SLn P (now + (bb : Nat)) js (drS ft P.length)).ats), .ms (.slice va (SLn P (now + (bb : Nat)) js (drS ft P.length)).L.length vj) (SLn P (now + (bb : Nat)) js (drS ft P.length)).L, .ce tab (tao + i * 3) (.int .u8 (kd : Nat)), .ce tab (tao + i * 3 + 1) (.int .u8 (tp : Nat)), .ce tab (tao + i * 3 + 2) (.int .u8 (bb : Nat)), .ms (.slice na (SLn P now js (drS ft P.length)).L.length nj) (SLn P now js (drS ft P.length)).L, .rw (.slice nb (SLn P now js (drS ft P.length)).ats.length nk) (SLn P now js (drS ft P.length)).ats.length 1 (icl (SLn P now js (drS ft P.length)).ats), .rw (.slice nc (SLn P now js (drS ft P.length)).ft.length nm) (SLn P now js (drS ft P.length)).ft.length 2 (fcl (SLn P now js (drS ft P.length)).ft), .rw (.slice fa ft.length fk) ft.length 2 (fcl ft), .rw (.slice (some ⟨tab, tao, none⟩) acts.length tk) acts.length 3 (acl acts)] mb m ls _) := Lib.hid (((((E9.out.set 2 0 (.int .i64 (now + (bb : Nat))) rfl).set 2 1 (.slice va (SLn P (now + (bb : Nat)) js (drS ft P.length)).L.length vj) rfl).set 2 2 (.slice vb (SLn P (now + (bb : Nat)) js (drS ft P.length)).ats.length vk) rfl).set 2 3 (.slice vc (SLn P (now + (bb : Nat)) js (drS ft P.length)).ft.length vm) rfl))
        refine (Valid_sc HI2.out (E10.out.fc 2 rfl) (E10.out.fc 1 rfl) (E10.out.fc 0 rfl)).mono ?_
        rintro e w5 ⟨rfl, hb⟩
        have E11 : Hid (EnvP D w ((w4.heap.size, 64, [.int .i64 (now + (bb : Nat)), .slice va (SLn P (now + (bb : Nat)) js (drS ft P.length)).L.length vj, .slice vb (SLn P (now + (bb : Nat)) js (drS ft P.length)).ats.length vk, .slice vc (SLn P (now + (bb : Nat)) js (drS ft P.length)).ft.length vm]) :: (wr.heap.size, 70, [.int .u8 (kd : Nat), .int .u8 (tp : Nat), .int .u8 (bb : Nat)]) :: (g5, 64, [.int .i64 (now + (bb : Nat)), .slice va (SLn P (now + (bb : Nat)) js (drS ft P.length)).L.length vj, .slice vb (SLn P (now + (bb : Nat)) js (drS ft P.length)).ats.length vk, .slice vc (SLn P (now + (bb : Nat)) js (drS ft P.length)).ft.length vm]) :: sg) [.rw (.slice vc (SLn P (now + (bb : Nat)) js (drS ft P.length)).ft.length vm) (SLn P (now + (bb : Nat)) js (drS ft P.length)).ft.length 2 (fcl (SLn P (now + (bb : Nat)) js (drS ft P.length)).ft), .rw (.slice vb (SLn P (now + (bb : Nat)) js (drS ft P.length)).ats.length vk) (SLn P (now + (bb : Nat)) js (drS ft P.length)).ats.length 1 (icl (SLn P (now + (bb : Nat)) js (drS ft P.length)).ats), .ms (.slice va (SLn P (now + (bb : Nat)) js (drS ft P.length)).L.length vj) (SLn P (now + (bb : Nat)) js (drS ft P.length)).L, .ce tab (tao + i * 3) (.int .u8 (kd : Nat)), .ce tab (tao + i * 3 + 1) (.int .u8 (tp : Nat)), .ce tab (tao + i * 3 + 2) (.int .u8 (bb : Nat)), .ms (.slice na (SLn P now js (drS ft P.length)).L.length nj) (SLn P now js (drS ft P.length)).L, .rw (.slice nb (SLn P now js (drS ft P.length)).ats.length nk) (SLn P now js (drS ft P.length)).ats.length 1 (icl (SLn P now js (drS ft P.length)).ats), .rw (.slice nc (SLn P now js (drS ft P.length)).ft.length nm) (SLn P now js (drS ft P.length)).ft.length 2 (fcl (SLn P now js (drS ft P.length)).ft), .rw (.slice fa ft.length fk) ft.length 2 (fcl ft), .rw (.slice (some ⟨tab, tao, none⟩) acts.length tk) acts.length 3 (acl acts)] mb m ls w5) := Lib.hid (E10.out.below hb)
        clear c3_0 c3_1 c3_2 c3_3 f3_0 f3_1 f3_2 f3_3 E8 E9 E10 hb
        have EZ := Lib.hid (EnvP.keep (A := [(w4.heap.size, 64, [.int .i64 (now + (bb : Nat)), .slice va (SLn P (now + (bb : Nat)) js (drS ft P.length)).L.length vj, .slice vb (SLn P (now + (bb : Nat)) js (drS ft P.length)).ats.length vk, .slice vc (SLn P (now + (bb : Nat)) js (drS ft P.length)).ft.length vm]), (wr.heap.size, 70, [.int .u8 (kd : Nat), .int .u8 (tp : Nat), .int .u8 (bb : Nat)])]) (G' := [.ms (.slice va (SLn P (now + (bb : Nat)) js (drS ft P.length)).L.length vj) (SLn P (now + (bb : Nat)) js (drS ft P.length)).L, .rw (.slice vb (SLn P (now + (bb : Nat)) js (drS ft P.length)).ats.length vk) (SLn P (now + (bb : Nat)) js (drS ft P.length)).ats.length 1 (icl (SLn P (now + (bb : Nat)) js (drS ft P.length)).ats), .rw (.slice vc (SLn P (now + (bb : Nat)) js (drS ft P.length)).ft.length vm) (SLn P (now + (bb : Nat)) js (drS ft P.length)).ft.length 2 (fcl (SLn P (now + (bb : Nat)) js (drS ft P.length)).ft), .rw (.slice fa ft.length fk) ft.length 2 (fcl ft), .rw (.slice (some ⟨tab, tao, none⟩) acts.length tk) acts.length 3 (acl acts)]) E11.out (by intro q hq; simp only [List.mem_cons, List.not_mem_nil, or_false] at hq ⊢; rcases hq with rfl | rfl | rfl | rfl | rfl <;> simp))
        go_wp2
        go_roundg (acts.length - (i + 1))
        case rel => exact ⟨i + 1, now + (bb : Nat), P, lf, js, ls, m, sg, cs, pa, pk, va, vj, vb, vk, vc, vm, rfl, rfl, EZ, Lib.hid ⟨by omega, by omega, by omega⟩, HI2, HS⟩
        case measure => exact by omega
theorem LineScripts_walk (ft : List (Int × Int)) (acts : Acts) {fa ta : Option Addr} {fk tk : Nat} {D : Nat → Prop} {w : World} (hx : Fct.at w D (.rw (.slice fa ft.length fk) ft.length 2 (fcl ft))) (hy : Fct.at w D (.rw (.slice ta acts.length tk) acts.length 3 (acl acts))) (HA : ∀ k (h : k < acts.length), acts[k].1 < 256 ∧ acts[k].2.1 < 256 ∧ acts[k].2.2 < 256) :
    Calls Try.prog 7 #[.slice fa ft.length fk, .slice ta acts.length tk] w fun e w' => e = .returned (.bool true) ∧ Below w.heap.size w w' := by
  by_cases h : 100 < acts.length
  · exact sc_la ft acts hx hy h
  by_cases h2 : 100 < ft.length
  · exact sc_lf ft acts hx hy (by omega) h2
  by_cases hF : FatsOk ft
  · exact sc_main ft acts hx hy (by omega) (by omega) hF HA
  · exact sc_bad ft acts hx hy (by omega) (by omega) hF
end Go.Proofs.Ytbcfcdcomboljaa

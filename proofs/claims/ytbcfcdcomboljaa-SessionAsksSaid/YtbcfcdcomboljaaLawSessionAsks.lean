/- SessionAsks: the walk. -/
import Derived.Test.YtbcfcdcomboljaaSesK
import Derived.Test.YtbcfcdcomboljaaSesG
import Derived.Test.YtbcfcdcomboljaaSesZr
namespace Go.Proofs.Ytbcfcdcomboljaa
open Go.RowKit
set_option linter.unusedVariables false
/-- F, called with a session and a message, returns a, x and c -/
def AskLike (F : Nat) (S : Ses) (M : Msg) (a : Ses) (x : Msg) (c : Int) : Prop := ∀ (D : Nat → Prop) (xa da ya : Option Addr) (xk dj yk : Nat) (w : World), Fct.at w D (.bs (.slice xa S.rq.body.length xk) S.rq.body) → Fct.at w D (.ms (.slice da S.dn.length dj) S.dn) → Fct.at w D (.bs (.slice ya M.body.length yk) M.body) → Calls Try.prog F #[.agg #[.int .i64 S.nx, .bool S.wt, .int .i64 S.rq.fr, .int .i64 S.rq.to_, .int .i64 S.rq.kd, .int .i64 S.rq.nm, .slice xa S.rq.body.length xk, .slice da S.dn.length dj, .int .i64 S.tr], .agg #[.int .i64 M.fr, .int .i64 M.to_, .int .i64 M.kd, .int .i64 M.nm, .slice ya M.body.length yk]] w fun e w' => RetSM (fun b => D b ∨ w.heap.size ≤ b) a x c e w' ∧ Below w.heap.size w w'
def AgLike (F : Nat) (S : Ses) (a : Ses) (x : Msg) (c : Int) : Prop := ∀ (D : Nat → Prop) (xa da : Option Addr) (xk dj : Nat) (w : World), Fct.at w D (.bs (.slice xa S.rq.body.length xk) S.rq.body) → Fct.at w D (.ms (.slice da S.dn.length dj) S.dn) → Calls Try.prog F #[.agg #[.int .i64 S.nx, .bool S.wt, .int .i64 S.rq.fr, .int .i64 S.rq.to_, .int .i64 S.rq.kd, .int .i64 S.rq.nm, .slice xa S.rq.body.length xk, .slice da S.dn.length dj, .int .i64 S.tr]] w fun e w' => RetSM (fun b => D b ∨ w.heap.size ≤ b) a x c e w' ∧ Below w.heap.size w w'
def AccLike (F : Nat) (S : Ses) (M : Msg) (a : Ses) (t : Bool) (c : Int) : Prop := ∀ (D : Nat → Prop) (xa da ya : Option Addr) (xk dj yk : Nat) (w : World), Fct.at w D (.bs (.slice xa S.rq.body.length xk) S.rq.body) → Fct.at w D (.ms (.slice da S.dn.length dj) S.dn) → Fct.at w D (.bs (.slice ya M.body.length yk) M.body) → Calls Try.prog F #[.agg #[.int .i64 S.nx, .bool S.wt, .int .i64 S.rq.fr, .int .i64 S.rq.to_, .int .i64 S.rq.kd, .int .i64 S.rq.nm, .slice xa S.rq.body.length xk, .slice da S.dn.length dj, .int .i64 S.tr], .agg #[.int .i64 M.fr, .int .i64 M.to_, .int .i64 M.kd, .int .i64 M.nm, .slice ya M.body.length yk]] w fun e w' => RetSB (fun b => D b ∨ w.heap.size ≤ b) a t c e w' ∧ Below w.heap.size w w'
def VLike (F : Nat) (S : Ses) (t : Bool) : Prop := ∀ (D : Nat → Prop) (xa da : Option Addr) (xk dj : Nat) (w : World), Fct.at w D (.bs (.slice xa S.rq.body.length xk) S.rq.body) → Fct.at w D (.ms (.slice da S.dn.length dj) S.dn) → Calls Try.prog F #[.agg #[.int .i64 S.nx, .bool S.wt, .int .i64 S.rq.fr, .int .i64 S.rq.to_, .int .i64 S.rq.kd, .int .i64 S.rq.nm, .slice xa S.rq.body.length xk, .slice da S.dn.length dj, .int .i64 S.tr]] w fun e w' => e = .returned (.bool t) ∧ Below w.heap.size w w'
theorem S0.fair : Fair S0 := ⟨by decide, by decide, fun k h => absurd h (by simp [S0])⟩
theorem valid_both (S : Ses) : ∃ t, VLike 21 S t ∧ VLike 22 S t := by
  by_cases h : SesOk S
  · exact ⟨true, fun D xa da xk dj w hx hy => Valid_t h hx hy, fun D xa da xk dj w hx hy => rValid_t h hx hy⟩
  · exact ⟨false, fun D xa da xk dj w hx hy => Valid_f h hx hy, fun D xa da xk dj w hx hy => rValid_f h hx hy⟩
theorem ask_both (S : Ses) (M : Msg) : ∃ a x c, AskLike 24 S M a x c ∧ AskLike 25 S M a x c ∧ Fair a ∧ x.body.length ≤ 1000000 := by
  obtain ⟨nx, wt, ⟨fr, to_, kd, nm, body⟩, dn, tr⟩ := S
  obtain ⟨fr2, to2, kd2, nm2, body2⟩ := M
  by_cases h : SesOk ⟨nx, wt, ⟨fr, to_, kd, nm, body⟩, dn, tr⟩
  case neg => exact ⟨S0, M0, 1, fun D xa da ya xk dj yk w hx hy hz => Ask_1a nx fr to_ kd nm tr wt body dn fr2 to2 kd2 nm2 body2 hx hy hz h, fun D xa da ya xk dj yk w hx hy hz => rAsk_1a nx fr to_ kd nm tr wt body dn fr2 to2 kd2 nm2 body2 hx hy hz h, S0.fair, by decide⟩
  cases hm : msgOk ⟨fr2, to2, kd2, nm2, body2⟩
  · exact ⟨S0, M0, 1, fun D xa da ya xk dj yk w hx hy hz => Ask_1b nx fr to_ kd nm tr wt body dn fr2 to2 kd2 nm2 body2 hx hy hz h hm, fun D xa da ya xk dj yk w hx hy hz => rAsk_1b nx fr to_ kd nm tr wt body dn fr2 to2 kd2 nm2 body2 hx hy hz h hm, S0.fair, by decide⟩
  cases wt
  case true => exact ⟨S0, M0, 6, fun D xa da ya xk dj yk w hx hy hz => Ask_6 nx fr to_ kd nm tr body dn fr2 to2 kd2 nm2 body2 hx hy hz h hm, fun D xa da ya xk dj yk w hx hy hz => rAsk_6 nx fr to_ kd nm tr body dn fr2 to2 kd2 nm2 body2 hx hy hz h hm, S0.fair, by decide⟩
  by_cases hn : nx = 1073741824
  · subst hn
    exact ⟨S0, M0, 5, fun D xa da ya xk dj yk w hx hy hz => Ask_5 fr to_ kd nm tr body dn fr2 to2 kd2 nm2 body2 hx hy hz h hm, fun D xa da ya xk dj yk w hx hy hz => rAsk_5 fr to_ kd nm tr body dn fr2 to2 kd2 nm2 body2 hx hy hz h hm, S0.fair, by decide⟩
  · have hF := h.fair
    have hml : body2.length ≤ 1000000 := msgOk.len hm
    exact ⟨⟨nx + 1, true, ⟨fr2, to2, kd2, nx, body2⟩, dn, 1⟩, ⟨fr2, to2, kd2, nx, body2⟩, 0, fun D xa da ya xk dj yk w hx hy hz => Ask_0 nx fr to_ kd nm tr body dn fr2 to2 kd2 nm2 body2 hx hy hz h hm hn, fun D xa da ya xk dj yk w hx hy hz => rAsk_0 nx fr to_ kd nm tr body dn fr2 to2 kd2 nm2 body2 hx hy hz h hm hn, ⟨hml, hF.2⟩, hml⟩
theorem again_both (S : Ses) : ∃ a x c, AgLike 26 S a x c ∧ AgLike 27 S a x c ∧ Fair a ∧ x.body.length ≤ 1000000 := by
  obtain ⟨nx, wt, ⟨fr, to_, kd, nm, body⟩, dn, tr⟩ := S
  by_cases h : SesOk ⟨nx, wt, ⟨fr, to_, kd, nm, body⟩, dn, tr⟩
  case neg => exact ⟨S0, M0, 1, fun D xa da xk dj w hx hy => Again_1 nx fr to_ kd nm tr wt body dn hx hy h, fun D xa da xk dj w hx hy => rAgain_1 nx fr to_ kd nm tr wt body dn hx hy h, S0.fair, by decide⟩
  cases wt
  · exact ⟨S0, M0, 6, fun D xa da xk dj w hx hy => Again_6 nx fr to_ kd nm tr body dn hx hy h, fun D xa da xk dj w hx hy => rAgain_6 nx fr to_ kd nm tr body dn hx hy h, S0.fair, by decide⟩
  by_cases hn : tr = 100
  · subst hn
    exact ⟨S0, M0, 5, fun D xa da xk dj w hx hy => Again_5 nx fr to_ kd nm body dn hx hy h, fun D xa da xk dj w hx hy => rAgain_5 nx fr to_ kd nm body dn hx hy h, S0.fair, by decide⟩
  · have hF := h.fair
    exact ⟨⟨nx, true, ⟨fr, to_, kd, nm, body⟩, dn, tr + 1⟩, ⟨fr, to_, kd, nm, body⟩, 0, fun D xa da xk dj w hx hy => Again_0 nx fr to_ kd nm tr body dn hx hy h hn, fun D xa da xk dj w hx hy => rAgain_0 nx fr to_ kd nm tr body dn hx hy h hn, hF, hF.1⟩
theorem accept_both (S : Ses) (M : Msg) : ∃ a t c, AccLike 28 S M a t c ∧ AccLike 29 S M a t c ∧ Fair a := by
  obtain ⟨nx, wt, ⟨fr, to_, kd, nm, body⟩, dn, tr⟩ := S
  obtain ⟨fr2, to2, kd2, nm2, body2⟩ := M
  by_cases h : SesOk ⟨nx, wt, ⟨fr, to_, kd, nm, body⟩, dn, tr⟩
  case neg => exact ⟨S0, false, 1, fun D xa da ya xk dj yk w hx hy hz => Accept_1a nx fr to_ kd nm tr wt body dn fr2 to2 kd2 nm2 body2 hx hy hz h, fun D xa da ya xk dj yk w hx hy hz => rAccept_1a nx fr to_ kd nm tr wt body dn fr2 to2 kd2 nm2 body2 hx hy hz h, S0.fair⟩
  cases hm : msgOk ⟨fr2, to2, kd2, nm2, body2⟩
  · exact ⟨S0, false, 1, fun D xa da ya xk dj yk w hx hy hz => Accept_1b nx fr to_ kd nm tr wt body dn fr2 to2 kd2 nm2 body2 hx hy hz h hm, fun D xa da ya xk dj yk w hx hy hz => rAccept_1b nx fr to_ kd nm tr wt body dn fr2 to2 kd2 nm2 body2 hx hy hz h hm, S0.fair⟩
  have hF := h.fair
  cases wt
  · exact ⟨_, false, 0, fun D xa da ya xk dj yk w hx hy hz => Accept_n nx fr to_ kd nm tr body dn fr2 to2 kd2 nm2 body2 hx hy hz h hm, fun D xa da ya xk dj yk w hx hy hz => rAccept_n nx fr to_ kd nm tr body dn fr2 to2 kd2 nm2 body2 hx hy hz h hm, hF⟩
  cases hb : blg ⟨fr2, to2, kd2, nm2, body2⟩ ⟨fr, to_, kd, nm, body⟩
  · exact ⟨_, false, 0, fun D xa da ya xk dj yk w hx hy hz => Accept_f nx fr to_ kd nm tr body dn fr2 to2 kd2 nm2 body2 hx hy hz h hm hb, fun D xa da ya xk dj yk w hx hy hz => rAccept_f nx fr to_ kd nm tr body dn fr2 to2 kd2 nm2 body2 hx hy hz h hm hb, hF⟩
  · exact ⟨⟨nx, false, M0, dn, 0⟩, true, 0, fun D xa da ya xk dj yk w hx hy hz => Accept_t nx fr to_ kd nm tr body dn fr2 to2 kd2 nm2 body2 hx hy hz h hm hb, fun D xa da ya xk dj yk w hx hy hz => rAccept_t nx fr to_ kd nm tr body dn fr2 to2 kd2 nm2 body2 hx hy hz h hm hb, ⟨by show ([] : List Nat).length ≤ 1000000; simp, hF.2⟩⟩
set_option maxRecDepth 100000 in
set_option maxHeartbeats 4000000 in
theorem asks_great {D : Nat → Prop} (S : Ses) (M : Msg) {xa da ya : Option Addr} {xk dj yk : Nat} {w : World} (hx : Fct.at w D (.bs (.slice xa S.rq.body.length xk) S.rq.body)) (hy : Fct.at w D (.ms (.slice da S.dn.length dj) S.dn)) (hz : Fct.at w D (.bs (.slice ya M.body.length yk) M.body)) (hg0 : ¬ Small S) :
    Calls Try.prog 5 #[.agg #[.int .i64 S.nx, .bool S.wt, .int .i64 S.rq.fr, .int .i64 S.rq.to_, .int .i64 S.rq.kd, .int .i64 S.rq.nm, .slice xa S.rq.body.length xk, .slice da S.dn.length dj, .int .i64 S.tr], .agg #[.int .i64 M.fr, .int .i64 M.to_, .int .i64 M.kd, .int .i64 M.nm, .slice ya M.body.length yk]] w fun e w' => e = .returned (.bool true) ∧ Below w.heap.size w w' := by
  have E0 : Hid (Env D w [] [.bs (.slice ya M.body.length yk) M.body, .ms (.slice da S.dn.length dj) S.dn, .bs (.slice xa S.rq.body.length xk) S.rq.body] w) := Lib.hid ((((Env.start D w).arg (.bs (.slice xa S.rq.body.length xk) S.rq.body) hx).arg (.ms (.slice da S.dn.length dj) S.dn) hy).arg (.bs (.slice ya M.body.length yk) M.body) hz)
  clear hx hy hz
  go_enter Try.func5, Try.ntmps5
  have hg := Lib.hid hg0
  clear hg0
  go_wp2_with fail
  have E1 : Hid (Env D w [(w.heap.size + 1, 24, [.int .i64 M.fr, .int .i64 M.to_, .int .i64 M.kd, .int .i64 M.nm, .slice ya M.body.length yk]), (w.heap.size, 27, [.int .i64 S.nx, .bool S.wt, .int .i64 S.rq.fr, .int .i64 S.rq.to_, .int .i64 S.rq.kd, .int .i64 S.rq.nm, .slice xa S.rq.body.length xk, .slice da S.dn.length dj, .int .i64 S.tr])] [.bs (.slice ya M.body.length yk) M.body, .ms (.slice da S.dn.length dj) S.dn, .bs (.slice xa S.rq.body.length xk) S.rq.body] _) := Lib.hid (((E0.out.push 27 [.int .i64 S.nx, .bool S.wt, .int .i64 S.rq.fr, .int .i64 S.rq.to_, .int .i64 S.rq.kd, .int .i64 S.rq.nm, .slice xa S.rq.body.length xk, .slice da S.dn.length dj, .int .i64 S.tr] (w.heap.size) (by simp)).push 24 [.int .i64 M.fr, .int .i64 M.to_, .int .i64 M.kd, .int .i64 M.nm, .slice ya M.body.length yk] (w.heap.size + 1) (by simp)))
  refine (awake_c (D := (DF D w.heap.size [(w.heap.size + 1, 24, [.int .i64 M.fr, .int .i64 M.to_, .int .i64 M.kd, .int .i64 M.nm, .slice ya M.body.length yk]), (w.heap.size, 27, [.int .i64 S.nx, .bool S.wt, .int .i64 S.rq.fr, .int .i64 S.rq.to_, .int .i64 S.rq.kd, .int .i64 S.rq.nm, .slice xa S.rq.body.length xk, .slice da S.dn.length dj, .int .i64 S.tr])]))).mono ?_
  rintro e w1 ⟨rfl, hb⟩
  have E2 : Hid (Env D w [(w.heap.size + 1, 24, [.int .i64 M.fr, .int .i64 M.to_, .int .i64 M.kd, .int .i64 M.nm, .slice ya M.body.length yk]), (w.heap.size, 27, [.int .i64 S.nx, .bool S.wt, .int .i64 S.rq.fr, .int .i64 S.rq.to_, .int .i64 S.rq.kd, .int .i64 S.rq.nm, .slice xa S.rq.body.length xk, .slice da S.dn.length dj, .int .i64 S.tr])] [.bs (.slice ya M.body.length yk) M.body, .ms (.slice da S.dn.length dj) S.dn, .bs (.slice xa S.rq.body.length xk) S.rq.body] w1) := Lib.hid (E1.out.below hb)
  clear E0 E1 hb
  have b1 := E2.out.bx 1 rfl
  have c1_0 := b1.cell 0 rfl
  have c1_1 := b1.cell 1 rfl
  have c1_2 := b1.cell 2 rfl
  have c1_3 := b1.cell 3 rfl
  have c1_4 := b1.cell 4 rfl
  have c1_5 := b1.cell 5 rfl
  have c1_6 := b1.cell 6 rfl
  have c1_7 := b1.cell 7 rfl
  have c1_8 := b1.cell 8 rfl
  clear b1
  go_wp2_with fail
  refine (great_t hg.out (E2.out.fc 1 rfl)).mono ?_
  rintro e w2 ⟨rfl, hb⟩
  have E3 : Hid (Env D w [(w.heap.size + 1, 24, [.int .i64 M.fr, .int .i64 M.to_, .int .i64 M.kd, .int .i64 M.nm, .slice ya M.body.length yk]), (w.heap.size, 27, [.int .i64 S.nx, .bool S.wt, .int .i64 S.rq.fr, .int .i64 S.rq.to_, .int .i64 S.rq.kd, .int .i64 S.rq.nm, .slice xa S.rq.body.length xk, .slice da S.dn.length dj, .int .i64 S.tr])] [.bs (.slice ya M.body.length yk) M.body, .ms (.slice da S.dn.length dj) S.dn, .bs (.slice xa S.rq.body.length xk) S.rq.body] w2) := Lib.hid (E2.out.below hb)
  clear c1_0 c1_1 c1_2 c1_3 c1_4 c1_5 c1_6 c1_7 c1_8 E2 hb
  have hfin := Lib.hid E3.out.bel
  go_wp2
  go_ret
  exact ⟨rfl, hfin.out⟩
set_option maxRecDepth 100000 in
set_option maxHeartbeats 4000000 in
theorem asks_long {D : Nat → Prop} (S : Ses) (M : Msg) {xa da ya : Option Addr} {xk dj yk : Nat} {w : World} (hx : Fct.at w D (.bs (.slice xa S.rq.body.length xk) S.rq.body)) (hy : Fct.at w D (.ms (.slice da S.dn.length dj) S.dn)) (hz : Fct.at w D (.bs (.slice ya M.body.length yk) M.body)) (hg0 : Small S) (hl0 : decide (20000 < M.body.length) = true) :
    Calls Try.prog 5 #[.agg #[.int .i64 S.nx, .bool S.wt, .int .i64 S.rq.fr, .int .i64 S.rq.to_, .int .i64 S.rq.kd, .int .i64 S.rq.nm, .slice xa S.rq.body.length xk, .slice da S.dn.length dj, .int .i64 S.tr], .agg #[.int .i64 M.fr, .int .i64 M.to_, .int .i64 M.kd, .int .i64 M.nm, .slice ya M.body.length yk]] w fun e w' => e = .returned (.bool true) ∧ Below w.heap.size w w' := by
  have E0 : Hid (Env D w [] [.bs (.slice ya M.body.length yk) M.body, .ms (.slice da S.dn.length dj) S.dn, .bs (.slice xa S.rq.body.length xk) S.rq.body] w) := Lib.hid ((((Env.start D w).arg (.bs (.slice xa S.rq.body.length xk) S.rq.body) hx).arg (.ms (.slice da S.dn.length dj) S.dn) hy).arg (.bs (.slice ya M.body.length yk) M.body) hz)
  clear hx hy hz
  go_enter Try.func5, Try.ntmps5
  have hg := Lib.hid hg0
  clear hg0
  have hl := Lib.hid hl0
  clear hl0
  go_wp2_with fail
  have E1 : Hid (Env D w [(w.heap.size + 1, 24, [.int .i64 M.fr, .int .i64 M.to_, .int .i64 M.kd, .int .i64 M.nm, .slice ya M.body.length yk]), (w.heap.size, 27, [.int .i64 S.nx, .bool S.wt, .int .i64 S.rq.fr, .int .i64 S.rq.to_, .int .i64 S.rq.kd, .int .i64 S.rq.nm, .slice xa S.rq.body.length xk, .slice da S.dn.length dj, .int .i64 S.tr])] [.bs (.slice ya M.body.length yk) M.body, .ms (.slice da S.dn.length dj) S.dn, .bs (.slice xa S.rq.body.length xk) S.rq.body] _) := Lib.hid (((E0.out.push 27 [.int .i64 S.nx, .bool S.wt, .int .i64 S.rq.fr, .int .i64 S.rq.to_, .int .i64 S.rq.kd, .int .i64 S.rq.nm, .slice xa S.rq.body.length xk, .slice da S.dn.length dj, .int .i64 S.tr] (w.heap.size) (by simp)).push 24 [.int .i64 M.fr, .int .i64 M.to_, .int .i64 M.kd, .int .i64 M.nm, .slice ya M.body.length yk] (w.heap.size + 1) (by simp)))
  refine (awake_c (D := (DF D w.heap.size [(w.heap.size + 1, 24, [.int .i64 M.fr, .int .i64 M.to_, .int .i64 M.kd, .int .i64 M.nm, .slice ya M.body.length yk]), (w.heap.size, 27, [.int .i64 S.nx, .bool S.wt, .int .i64 S.rq.fr, .int .i64 S.rq.to_, .int .i64 S.rq.kd, .int .i64 S.rq.nm, .slice xa S.rq.body.length xk, .slice da S.dn.length dj, .int .i64 S.tr])]))).mono ?_
  rintro e w1 ⟨rfl, hb⟩
  have E2 : Hid (Env D w [(w.heap.size + 1, 24, [.int .i64 M.fr, .int .i64 M.to_, .int .i64 M.kd, .int .i64 M.nm, .slice ya M.body.length yk]), (w.heap.size, 27, [.int .i64 S.nx, .bool S.wt, .int .i64 S.rq.fr, .int .i64 S.rq.to_, .int .i64 S.rq.kd, .int .i64 S.rq.nm, .slice xa S.rq.body.length xk, .slice da S.dn.length dj, .int .i64 S.tr])] [.bs (.slice ya M.body.length yk) M.body, .ms (.slice da S.dn.length dj) S.dn, .bs (.slice xa S.rq.body.length xk) S.rq.body] w1) := Lib.hid (E1.out.below hb)
  clear E0 E1 hb
  have b1 := E2.out.bx 1 rfl
  have c1_0 := b1.cell 0 rfl
  have c1_1 := b1.cell 1 rfl
  have c1_2 := b1.cell 2 rfl
  have c1_3 := b1.cell 3 rfl
  have c1_4 := b1.cell 4 rfl
  have c1_5 := b1.cell 5 rfl
  have c1_6 := b1.cell 6 rfl
  have c1_7 := b1.cell 7 rfl
  have c1_8 := b1.cell 8 rfl
  clear b1
  go_wp2_with fail
  refine (great_f hg.out (E2.out.fc 1 rfl)).mono ?_
  rintro e w2 ⟨rfl, hb⟩
  have E3 : Hid (Env D w [(w.heap.size + 1, 24, [.int .i64 M.fr, .int .i64 M.to_, .int .i64 M.kd, .int .i64 M.nm, .slice ya M.body.length yk]), (w.heap.size, 27, [.int .i64 S.nx, .bool S.wt, .int .i64 S.rq.fr, .int .i64 S.rq.to_, .int .i64 S.rq.kd, .int .i64 S.rq.nm, .slice xa S.rq.body.length xk, .slice da S.dn.length dj, .int .i64 S.tr])] [.bs (.slice ya M.body.length yk) M.body, .ms (.slice da S.dn.length dj) S.dn, .bs (.slice xa S.rq.body.length xk) S.rq.body] w2) := Lib.hid (E2.out.below hb)
  clear c1_0 c1_1 c1_2 c1_3 c1_4 c1_5 c1_6 c1_7 c1_8 E2 hb
  have b2 := E3.out.bx 0 rfl
  have c2_0 := b2.cell 0 rfl
  have c2_1 := b2.cell 1 rfl
  have c2_2 := b2.cell 2 rfl
  have c2_3 := b2.cell 3 rfl
  have c2_4 := b2.cell 4 rfl
  clear b2
  go_wp2_with fail
  refine (long_v M.body hl.out _ _ _ _ _ _ _).mono ?_
  rintro e w3 ⟨rfl, hb⟩
  have E4 : Hid (Env D w [(w.heap.size + 1, 24, [.int .i64 M.fr, .int .i64 M.to_, .int .i64 M.kd, .int .i64 M.nm, .slice ya M.body.length yk]), (w.heap.size, 27, [.int .i64 S.nx, .bool S.wt, .int .i64 S.rq.fr, .int .i64 S.rq.to_, .int .i64 S.rq.kd, .int .i64 S.rq.nm, .slice xa S.rq.body.length xk, .slice da S.dn.length dj, .int .i64 S.tr])] [.bs (.slice ya M.body.length yk) M.body, .ms (.slice da S.dn.length dj) S.dn, .bs (.slice xa S.rq.body.length xk) S.rq.body] w3) := Lib.hid (E3.out.below hb)
  clear c2_0 c2_1 c2_2 c2_3 c2_4 E3 hb
  have hfin := Lib.hid E4.out.bel
  go_wp2
  go_ret
  exact ⟨rfl, hfin.out⟩
set_option maxRecDepth 100000 in
set_option maxHeartbeats 4000000 in
theorem asks_main {D : Nat → Prop} (S : Ses) (M : Msg) {xa da ya : Option Addr} {xk dj yk : Nat} (t1 t3 : Bool) (a1 a2 a3 : Ses) (x1 x2 : Msg) (k1 k2 k3 : Int) {w : World} (hx : Fct.at w D (.bs (.slice xa S.rq.body.length xk) S.rq.body)) (hy : Fct.at w D (.ms (.slice da S.dn.length dj) S.dn)) (hz : Fct.at w D (.bs (.slice ya M.body.length yk) M.body)) (hg0 : Small S) (hl0 : decide (20000 < M.body.length) = false) (cv0 : VLike 21 S t1) (cw0 : VLike 22 S t1) (c10 : AskLike 24 S M a1 x1 k1) (c20 : AskLike 25 S M a1 x1 k1) (f10 : Fair a1 ∧ x1.body.length ≤ 1000000) (c30 : AgLike 26 S a2 x2 k2) (c40 : AgLike 27 S a2 x2 k2) (f20 : Fair a2 ∧ x2.body.length ≤ 1000000) (c50 : AccLike 28 S M a3 t3 k3) (c60 : AccLike 29 S M a3 t3 k3) (f30 : Fair a3) :
    Calls Try.prog 5 #[.agg #[.int .i64 S.nx, .bool S.wt, .int .i64 S.rq.fr, .int .i64 S.rq.to_, .int .i64 S.rq.kd, .int .i64 S.rq.nm, .slice xa S.rq.body.length xk, .slice da S.dn.length dj, .int .i64 S.tr], .agg #[.int .i64 M.fr, .int .i64 M.to_, .int .i64 M.kd, .int .i64 M.nm, .slice ya M.body.length yk]] w fun e w' => e = .returned (.bool true) ∧ Below w.heap.size w w' := by
  have E0 : Hid (Env D w [] [.bs (.slice ya M.body.length yk) M.body, .ms (.slice da S.dn.length dj) S.dn, .bs (.slice xa S.rq.body.length xk) S.rq.body] w) := Lib.hid ((((Env.start D w).arg (.bs (.slice xa S.rq.body.length xk) S.rq.body) hx).arg (.ms (.slice da S.dn.length dj) S.dn) hy).arg (.bs (.slice ya M.body.length yk) M.body) hz)
  clear hx hy hz
  go_enter Try.func5, Try.ntmps5
  have hg := Lib.hid hg0
  clear hg0
  have hl := Lib.hid hl0
  clear hl0
  have cv := Lib.hid cv0
  clear cv0
  have cw := Lib.hid cw0
  clear cw0
  have c1 := Lib.hid c10
  clear c10
  have c2 := Lib.hid c20
  clear c20
  have f1 := Lib.hid f10
  clear f10
  have c3 := Lib.hid c30
  clear c30
  have c4 := Lib.hid c40
  clear c40
  have f2 := Lib.hid f20
  clear f20
  have c5 := Lib.hid c50
  clear c50
  have c6 := Lib.hid c60
  clear c60
  have f3 := Lib.hid f30
  clear f30
  go_wp2_with fail
  have E1 : Hid (Env D w [(w.heap.size + 1, 24, [.int .i64 M.fr, .int .i64 M.to_, .int .i64 M.kd, .int .i64 M.nm, .slice ya M.body.length yk]), (w.heap.size, 27, [.int .i64 S.nx, .bool S.wt, .int .i64 S.rq.fr, .int .i64 S.rq.to_, .int .i64 S.rq.kd, .int .i64 S.rq.nm, .slice xa S.rq.body.length xk, .slice da S.dn.length dj, .int .i64 S.tr])] [.bs (.slice ya M.body.length yk) M.body, .ms (.slice da S.dn.length dj) S.dn, .bs (.slice xa S.rq.body.length xk) S.rq.body] _) := Lib.hid (((E0.out.push 27 [.int .i64 S.nx, .bool S.wt, .int .i64 S.rq.fr, .int .i64 S.rq.to_, .int .i64 S.rq.kd, .int .i64 S.rq.nm, .slice xa S.rq.body.length xk, .slice da S.dn.length dj, .int .i64 S.tr] (w.heap.size) (by simp)).push 24 [.int .i64 M.fr, .int .i64 M.to_, .int .i64 M.kd, .int .i64 M.nm, .slice ya M.body.length yk] (w.heap.size + 1) (by simp)))
  refine (awake_c (D := (DF D w.heap.size [(w.heap.size + 1, 24, [.int .i64 M.fr, .int .i64 M.to_, .int .i64 M.kd, .int .i64 M.nm, .slice ya M.body.length yk]), (w.heap.size, 27, [.int .i64 S.nx, .bool S.wt, .int .i64 S.rq.fr, .int .i64 S.rq.to_, .int .i64 S.rq.kd, .int .i64 S.rq.nm, .slice xa S.rq.body.length xk, .slice da S.dn.length dj, .int .i64 S.tr])]))).mono ?_
  rintro e w1 ⟨rfl, hb⟩
  have E2 : Hid (Env D w [(w.heap.size + 1, 24, [.int .i64 M.fr, .int .i64 M.to_, .int .i64 M.kd, .int .i64 M.nm, .slice ya M.body.length yk]), (w.heap.size, 27, [.int .i64 S.nx, .bool S.wt, .int .i64 S.rq.fr, .int .i64 S.rq.to_, .int .i64 S.rq.kd, .int .i64 S.rq.nm, .slice xa S.rq.body.length xk, .slice da S.dn.length dj, .int .i64 S.tr])] [.bs (.slice ya M.body.length yk) M.body, .ms (.slice da S.dn.length dj) S.dn, .bs (.slice xa S.rq.body.length xk) S.rq.body] w1) := Lib.hid (E1.out.below hb)
  clear E0 E1 hb
  have b1 := E2.out.bx 1 rfl
  have c1_0 := b1.cell 0 rfl
  have c1_1 := b1.cell 1 rfl
  have c1_2 := b1.cell 2 rfl
  have c1_3 := b1.cell 3 rfl
  have c1_4 := b1.cell 4 rfl
  have c1_5 := b1.cell 5 rfl
  have c1_6 := b1.cell 6 rfl
  have c1_7 := b1.cell 7 rfl
  have c1_8 := b1.cell 8 rfl
  clear b1
  go_wp2_with fail
  refine (great_f hg.out (E2.out.fc 1 rfl)).mono ?_
  rintro e w2 ⟨rfl, hb⟩
  have E3 : Hid (Env D w [(w.heap.size + 1, 24, [.int .i64 M.fr, .int .i64 M.to_, .int .i64 M.kd, .int .i64 M.nm, .slice ya M.body.length yk]), (w.heap.size, 27, [.int .i64 S.nx, .bool S.wt, .int .i64 S.rq.fr, .int .i64 S.rq.to_, .int .i64 S.rq.kd, .int .i64 S.rq.nm, .slice xa S.rq.body.length xk, .slice da S.dn.length dj, .int .i64 S.tr])] [.bs (.slice ya M.body.length yk) M.body, .ms (.slice da S.dn.length dj) S.dn, .bs (.slice xa S.rq.body.length xk) S.rq.body] w2) := Lib.hid (E2.out.below hb)
  clear c1_0 c1_1 c1_2 c1_3 c1_4 c1_5 c1_6 c1_7 c1_8 E2 hb
  have b2 := E3.out.bx 0 rfl
  have c2_0 := b2.cell 0 rfl
  have c2_1 := b2.cell 1 rfl
  have c2_2 := b2.cell 2 rfl
  have c2_3 := b2.cell 3 rfl
  have c2_4 := b2.cell 4 rfl
  clear b2
  go_wp2_with fail
  refine (long_v M.body hl.out _ _ _ _ _ _ _).mono ?_
  rintro e w3 ⟨rfl, hb⟩
  have E4 : Hid (Env D w [(w.heap.size + 1, 24, [.int .i64 M.fr, .int .i64 M.to_, .int .i64 M.kd, .int .i64 M.nm, .slice ya M.body.length yk]), (w.heap.size, 27, [.int .i64 S.nx, .bool S.wt, .int .i64 S.rq.fr, .int .i64 S.rq.to_, .int .i64 S.rq.kd, .int .i64 S.rq.nm, .slice xa S.rq.body.length xk, .slice da S.dn.length dj, .int .i64 S.tr])] [.bs (.slice ya M.body.length yk) M.body, .ms (.slice da S.dn.length dj) S.dn, .bs (.slice xa S.rq.body.length xk) S.rq.body] w3) := Lib.hid (E3.out.below hb)
  clear c2_0 c2_1 c2_2 c2_3 c2_4 E3 hb
  have b3 := E4.out.bx 1 rfl
  have c3_0 := b3.cell 0 rfl
  have c3_1 := b3.cell 1 rfl
  have c3_2 := b3.cell 2 rfl
  have c3_3 := b3.cell 3 rfl
  have c3_4 := b3.cell 4 rfl
  have c3_5 := b3.cell 5 rfl
  have c3_6 := b3.cell 6 rfl
  have c3_7 := b3.cell 7 rfl
  have c3_8 := b3.cell 8 rfl
  clear b3
  have b4 := E4.out.bx 0 rfl
  have c4_0 := b4.cell 0 rfl
  have c4_1 := b4.cell 1 rfl
  have c4_2 := b4.cell 2 rfl
  have c4_3 := b4.cell 3 rfl
  have c4_4 := b4.cell 4 rfl
  clear b4
  go_wp2_with fail
  refine (c1.out _ _ _ _ _ _ _ _ (E4.out.fc 2 rfl) (E4.out.fc 1 rfl) (E4.out.fc 0 rfl)).mono ?_
  rintro e w4 ⟨⟨paa, pak, pab, paj, qaa, qak, rfl, hpa, gpa, hqa⟩, hb⟩
  have E5 : Hid (Env D w [(w.heap.size + 1, 24, [.int .i64 M.fr, .int .i64 M.to_, .int .i64 M.kd, .int .i64 M.nm, .slice ya M.body.length yk]), (w.heap.size, 27, [.int .i64 S.nx, .bool S.wt, .int .i64 S.rq.fr, .int .i64 S.rq.to_, .int .i64 S.rq.kd, .int .i64 S.rq.nm, .slice xa S.rq.body.length xk, .slice da S.dn.length dj, .int .i64 S.tr])] [.bs (.slice qaa x1.body.length qak) x1.body, .ms (.slice pab a1.dn.length paj) a1.dn, .bs (.slice paa a1.rq.body.length pak) a1.rq.body, .bs (.slice ya M.body.length yk) M.body, .ms (.slice da S.dn.length dj) S.dn, .bs (.slice xa S.rq.body.length xk) S.rq.body] w4) := Lib.hid (E4.out.got (E4.out.got (E4.out.got (E4.out.below hb) (.bs (.slice paa a1.rq.body.length pak) a1.rq.body) hpa.out) (.ms (.slice pab a1.dn.length paj) a1.dn) gpa.out) (.bs (.slice qaa x1.body.length qak) x1.body) hqa.out)
  clear c3_0 c3_1 c3_2 c3_3 c3_4 c3_5 c3_6 c3_7 c3_8 c4_0 c4_1 c4_2 c4_3 c4_4 E4 hb hpa gpa hqa
  have E6 : Hid (Env D w [(w4.heap.size + 1, 24, [.int .i64 x1.fr, .int .i64 x1.to_, .int .i64 x1.kd, .int .i64 x1.nm, .slice qaa x1.body.length qak]), (w4.heap.size, 27, [.int .i64 a1.nx, .bool a1.wt, .int .i64 a1.rq.fr, .int .i64 a1.rq.to_, .int .i64 a1.rq.kd, .int .i64 a1.rq.nm, .slice paa a1.rq.body.length pak, .slice pab a1.dn.length paj, .int .i64 a1.tr]), (w.heap.size + 1, 24, [.int .i64 M.fr, .int .i64 M.to_, .int .i64 M.kd, .int .i64 M.nm, .slice ya M.body.length yk]), (w.heap.size, 27, [.int .i64 S.nx, .bool S.wt, .int .i64 S.rq.fr, .int .i64 S.rq.to_, .int .i64 S.rq.kd, .int .i64 S.rq.nm, .slice xa S.rq.body.length xk, .slice da S.dn.length dj, .int .i64 S.tr])] [.bs (.slice qaa x1.body.length qak) x1.body, .ms (.slice pab a1.dn.length paj) a1.dn, .bs (.slice paa a1.rq.body.length pak) a1.rq.body, .bs (.slice ya M.body.length yk) M.body, .ms (.slice da S.dn.length dj) S.dn, .bs (.slice xa S.rq.body.length xk) S.rq.body] _) := Lib.hid (((E5.out.push 27 [.int .i64 a1.nx, .bool a1.wt, .int .i64 a1.rq.fr, .int .i64 a1.rq.to_, .int .i64 a1.rq.kd, .int .i64 a1.rq.nm, .slice paa a1.rq.body.length pak, .slice pab a1.dn.length paj, .int .i64 a1.tr] (w4.heap.size) (by simp)).push 24 [.int .i64 x1.fr, .int .i64 x1.to_, .int .i64 x1.kd, .int .i64 x1.nm, .slice qaa x1.body.length qak] (w4.heap.size + 1) (by simp)))
  have b5 := E6.out.bx 3 rfl
  have c5_0 := b5.cell 0 rfl
  have c5_1 := b5.cell 1 rfl
  have c5_2 := b5.cell 2 rfl
  have c5_3 := b5.cell 3 rfl
  have c5_4 := b5.cell 4 rfl
  have c5_5 := b5.cell 5 rfl
  have c5_6 := b5.cell 6 rfl
  have c5_7 := b5.cell 7 rfl
  have c5_8 := b5.cell 8 rfl
  clear b5
  have b6 := E6.out.bx 2 rfl
  have c6_0 := b6.cell 0 rfl
  have c6_1 := b6.cell 1 rfl
  have c6_2 := b6.cell 2 rfl
  have c6_3 := b6.cell 3 rfl
  have c6_4 := b6.cell 4 rfl
  clear b6
  go_wp2_with fail
  refine (c2.out _ _ _ _ _ _ _ _ (E6.out.fc 5 rfl) (E6.out.fc 4 rfl) (E6.out.fc 3 rfl)).mono ?_
  rintro e w5 ⟨⟨pba, pbk, pbb, pbj, qba, qbk, rfl, hpb, gpb, hqb⟩, hb⟩
  have E7 : Hid (Env D w [(w4.heap.size + 1, 24, [.int .i64 x1.fr, .int .i64 x1.to_, .int .i64 x1.kd, .int .i64 x1.nm, .slice qaa x1.body.length qak]), (w4.heap.size, 27, [.int .i64 a1.nx, .bool a1.wt, .int .i64 a1.rq.fr, .int .i64 a1.rq.to_, .int .i64 a1.rq.kd, .int .i64 a1.rq.nm, .slice paa a1.rq.body.length pak, .slice pab a1.dn.length paj, .int .i64 a1.tr]), (w.heap.size + 1, 24, [.int .i64 M.fr, .int .i64 M.to_, .int .i64 M.kd, .int .i64 M.nm, .slice ya M.body.length yk]), (w.heap.size, 27, [.int .i64 S.nx, .bool S.wt, .int .i64 S.rq.fr, .int .i64 S.rq.to_, .int .i64 S.rq.kd, .int .i64 S.rq.nm, .slice xa S.rq.body.length xk, .slice da S.dn.length dj, .int .i64 S.tr])] [.bs (.slice qba x1.body.length qbk) x1.body, .ms (.slice pbb a1.dn.length pbj) a1.dn, .bs (.slice pba a1.rq.body.length pbk) a1.rq.body, .bs (.slice qaa x1.body.length qak) x1.body, .ms (.slice pab a1.dn.length paj) a1.dn, .bs (.slice paa a1.rq.body.length pak) a1.rq.body, .bs (.slice ya M.body.length yk) M.body, .ms (.slice da S.dn.length dj) S.dn, .bs (.slice xa S.rq.body.length xk) S.rq.body] w5) := Lib.hid (E6.out.got (E6.out.got (E6.out.got (E6.out.below hb) (.bs (.slice pba a1.rq.body.length pbk) a1.rq.body) hpb.out) (.ms (.slice pbb a1.dn.length pbj) a1.dn) gpb.out) (.bs (.slice qba x1.body.length qbk) x1.body) hqb.out)
  clear c5_0 c5_1 c5_2 c5_3 c5_4 c5_5 c5_6 c5_7 c5_8 c6_0 c6_1 c6_2 c6_3 c6_4 E5 E6 hb hpb gpb hqb
  have E8 : Hid (Env D w [(w5.heap.size + 1, 24, [.int .i64 x1.fr, .int .i64 x1.to_, .int .i64 x1.kd, .int .i64 x1.nm, .slice qba x1.body.length qbk]), (w5.heap.size, 27, [.int .i64 a1.nx, .bool a1.wt, .int .i64 a1.rq.fr, .int .i64 a1.rq.to_, .int .i64 a1.rq.kd, .int .i64 a1.rq.nm, .slice pba a1.rq.body.length pbk, .slice pbb a1.dn.length pbj, .int .i64 a1.tr]), (w4.heap.size + 1, 24, [.int .i64 x1.fr, .int .i64 x1.to_, .int .i64 x1.kd, .int .i64 x1.nm, .slice qaa x1.body.length qak]), (w4.heap.size, 27, [.int .i64 a1.nx, .bool a1.wt, .int .i64 a1.rq.fr, .int .i64 a1.rq.to_, .int .i64 a1.rq.kd, .int .i64 a1.rq.nm, .slice paa a1.rq.body.length pak, .slice pab a1.dn.length paj, .int .i64 a1.tr]), (w.heap.size + 1, 24, [.int .i64 M.fr, .int .i64 M.to_, .int .i64 M.kd, .int .i64 M.nm, .slice ya M.body.length yk]), (w.heap.size, 27, [.int .i64 S.nx, .bool S.wt, .int .i64 S.rq.fr, .int .i64 S.rq.to_, .int .i64 S.rq.kd, .int .i64 S.rq.nm, .slice xa S.rq.body.length xk, .slice da S.dn.length dj, .int .i64 S.tr])] [.bs (.slice qba x1.body.length qbk) x1.body, .ms (.slice pbb a1.dn.length pbj) a1.dn, .bs (.slice pba a1.rq.body.length pbk) a1.rq.body, .bs (.slice qaa x1.body.length qak) x1.body, .ms (.slice pab a1.dn.length paj) a1.dn, .bs (.slice paa a1.rq.body.length pak) a1.rq.body, .bs (.slice ya M.body.length yk) M.body, .ms (.slice da S.dn.length dj) S.dn, .bs (.slice xa S.rq.body.length xk) S.rq.body] _) := Lib.hid (((E7.out.push 27 [.int .i64 a1.nx, .bool a1.wt, .int .i64 a1.rq.fr, .int .i64 a1.rq.to_, .int .i64 a1.rq.kd, .int .i64 a1.rq.nm, .slice pba a1.rq.body.length pbk, .slice pbb a1.dn.length pbj, .int .i64 a1.tr] (w5.heap.size) (by simp)).push 24 [.int .i64 x1.fr, .int .i64 x1.to_, .int .i64 x1.kd, .int .i64 x1.nm, .slice qba x1.body.length qbk] (w5.heap.size + 1) (by simp)))
  have b7 := E8.out.bx 5 rfl
  have c7_0 := b7.cell 0 rfl
  have c7_1 := b7.cell 1 rfl
  have c7_2 := b7.cell 2 rfl
  have c7_3 := b7.cell 3 rfl
  have c7_4 := b7.cell 4 rfl
  have c7_5 := b7.cell 5 rfl
  have c7_6 := b7.cell 6 rfl
  have c7_7 := b7.cell 7 rfl
  have c7_8 := b7.cell 8 rfl
  clear b7
  go_wp2_with fail
  refine (c3.out _ _ _ _ _ _ (E8.out.fc 8 rfl) (E8.out.fc 7 rfl)).mono ?_
  rintro e w6 ⟨⟨pca, pck, pcb, pcj, qca, qck, rfl, hpc, gpc, hqc⟩, hb⟩
  have E9 : Hid (Env D w [(w5.heap.size + 1, 24, [.int .i64 x1.fr, .int .i64 x1.to_, .int .i64 x1.kd, .int .i64 x1.nm, .slice qba x1.body.length qbk]), (w5.heap.size, 27, [.int .i64 a1.nx, .bool a1.wt, .int .i64 a1.rq.fr, .int .i64 a1.rq.to_, .int .i64 a1.rq.kd, .int .i64 a1.rq.nm, .slice pba a1.rq.body.length pbk, .slice pbb a1.dn.length pbj, .int .i64 a1.tr]), (w4.heap.size + 1, 24, [.int .i64 x1.fr, .int .i64 x1.to_, .int .i64 x1.kd, .int .i64 x1.nm, .slice qaa x1.body.length qak]), (w4.heap.size, 27, [.int .i64 a1.nx, .bool a1.wt, .int .i64 a1.rq.fr, .int .i64 a1.rq.to_, .int .i64 a1.rq.kd, .int .i64 a1.rq.nm, .slice paa a1.rq.body.length pak, .slice pab a1.dn.length paj, .int .i64 a1.tr]), (w.heap.size + 1, 24, [.int .i64 M.fr, .int .i64 M.to_, .int .i64 M.kd, .int .i64 M.nm, .slice ya M.body.length yk]), (w.heap.size, 27, [.int .i64 S.nx, .bool S.wt, .int .i64 S.rq.fr, .int .i64 S.rq.to_, .int .i64 S.rq.kd, .int .i64 S.rq.nm, .slice xa S.rq.body.length xk, .slice da S.dn.length dj, .int .i64 S.tr])] [.bs (.slice qca x2.body.length qck) x2.body, .ms (.slice pcb a2.dn.length pcj) a2.dn, .bs (.slice pca a2.rq.body.length pck) a2.rq.body, .bs (.slice qba x1.body.length qbk) x1.body, .ms (.slice pbb a1.dn.length pbj) a1.dn, .bs (.slice pba a1.rq.body.length pbk) a1.rq.body, .bs (.slice qaa x1.body.length qak) x1.body, .ms (.slice pab a1.dn.length paj) a1.dn, .bs (.slice paa a1.rq.body.length pak) a1.rq.body, .bs (.slice ya M.body.length yk) M.body, .ms (.slice da S.dn.length dj) S.dn, .bs (.slice xa S.rq.body.length xk) S.rq.body] w6) := Lib.hid (E8.out.got (E8.out.got (E8.out.got (E8.out.below hb) (.bs (.slice pca a2.rq.body.length pck) a2.rq.body) hpc.out) (.ms (.slice pcb a2.dn.length pcj) a2.dn) gpc.out) (.bs (.slice qca x2.body.length qck) x2.body) hqc.out)
  clear c7_0 c7_1 c7_2 c7_3 c7_4 c7_5 c7_6 c7_7 c7_8 E7 E8 hb hpc gpc hqc
  have E10 : Hid (Env D w [(w6.heap.size + 1, 24, [.int .i64 x2.fr, .int .i64 x2.to_, .int .i64 x2.kd, .int .i64 x2.nm, .slice qca x2.body.length qck]), (w6.heap.size, 27, [.int .i64 a2.nx, .bool a2.wt, .int .i64 a2.rq.fr, .int .i64 a2.rq.to_, .int .i64 a2.rq.kd, .int .i64 a2.rq.nm, .slice pca a2.rq.body.length pck, .slice pcb a2.dn.length pcj, .int .i64 a2.tr]), (w5.heap.size + 1, 24, [.int .i64 x1.fr, .int .i64 x1.to_, .int .i64 x1.kd, .int .i64 x1.nm, .slice qba x1.body.length qbk]), (w5.heap.size, 27, [.int .i64 a1.nx, .bool a1.wt, .int .i64 a1.rq.fr, .int .i64 a1.rq.to_, .int .i64 a1.rq.kd, .int .i64 a1.rq.nm, .slice pba a1.rq.body.length pbk, .slice pbb a1.dn.length pbj, .int .i64 a1.tr]), (w4.heap.size + 1, 24, [.int .i64 x1.fr, .int .i64 x1.to_, .int .i64 x1.kd, .int .i64 x1.nm, .slice qaa x1.body.length qak]), (w4.heap.size, 27, [.int .i64 a1.nx, .bool a1.wt, .int .i64 a1.rq.fr, .int .i64 a1.rq.to_, .int .i64 a1.rq.kd, .int .i64 a1.rq.nm, .slice paa a1.rq.body.length pak, .slice pab a1.dn.length paj, .int .i64 a1.tr]), (w.heap.size + 1, 24, [.int .i64 M.fr, .int .i64 M.to_, .int .i64 M.kd, .int .i64 M.nm, .slice ya M.body.length yk]), (w.heap.size, 27, [.int .i64 S.nx, .bool S.wt, .int .i64 S.rq.fr, .int .i64 S.rq.to_, .int .i64 S.rq.kd, .int .i64 S.rq.nm, .slice xa S.rq.body.length xk, .slice da S.dn.length dj, .int .i64 S.tr])] [.bs (.slice qca x2.body.length qck) x2.body, .ms (.slice pcb a2.dn.length pcj) a2.dn, .bs (.slice pca a2.rq.body.length pck) a2.rq.body, .bs (.slice qba x1.body.length qbk) x1.body, .ms (.slice pbb a1.dn.length pbj) a1.dn, .bs (.slice pba a1.rq.body.length pbk) a1.rq.body, .bs (.slice qaa x1.body.length qak) x1.body, .ms (.slice pab a1.dn.length paj) a1.dn, .bs (.slice paa a1.rq.body.length pak) a1.rq.body, .bs (.slice ya M.body.length yk) M.body, .ms (.slice da S.dn.length dj) S.dn, .bs (.slice xa S.rq.body.length xk) S.rq.body] _) := Lib.hid (((E9.out.push 27 [.int .i64 a2.nx, .bool a2.wt, .int .i64 a2.rq.fr, .int .i64 a2.rq.to_, .int .i64 a2.rq.kd, .int .i64 a2.rq.nm, .slice pca a2.rq.body.length pck, .slice pcb a2.dn.length pcj, .int .i64 a2.tr] (w6.heap.size) (by simp)).push 24 [.int .i64 x2.fr, .int .i64 x2.to_, .int .i64 x2.kd, .int .i64 x2.nm, .slice qca x2.body.length qck] (w6.heap.size + 1) (by simp)))
  have b8 := E10.out.bx 7 rfl
  have c8_0 := b8.cell 0 rfl
  have c8_1 := b8.cell 1 rfl
  have c8_2 := b8.cell 2 rfl
  have c8_3 := b8.cell 3 rfl
  have c8_4 := b8.cell 4 rfl
  have c8_5 := b8.cell 5 rfl
  have c8_6 := b8.cell 6 rfl
  have c8_7 := b8.cell 7 rfl
  have c8_8 := b8.cell 8 rfl
  clear b8
  go_wp2_with fail
  refine (c4.out _ _ _ _ _ _ (E10.out.fc 11 rfl) (E10.out.fc 10 rfl)).mono ?_
  rintro e w7 ⟨⟨pda, pdk, pdb, pdj, qda, qdk, rfl, hpd, gpd, hqd⟩, hb⟩
  have E11 : Hid (Env D w [(w6.heap.size + 1, 24, [.int .i64 x2.fr, .int .i64 x2.to_, .int .i64 x2.kd, .int .i64 x2.nm, .slice qca x2.body.length qck]), (w6.heap.size, 27, [.int .i64 a2.nx, .bool a2.wt, .int .i64 a2.rq.fr, .int .i64 a2.rq.to_, .int .i64 a2.rq.kd, .int .i64 a2.rq.nm, .slice pca a2.rq.body.length pck, .slice pcb a2.dn.length pcj, .int .i64 a2.tr]), (w5.heap.size + 1, 24, [.int .i64 x1.fr, .int .i64 x1.to_, .int .i64 x1.kd, .int .i64 x1.nm, .slice qba x1.body.length qbk]), (w5.heap.size, 27, [.int .i64 a1.nx, .bool a1.wt, .int .i64 a1.rq.fr, .int .i64 a1.rq.to_, .int .i64 a1.rq.kd, .int .i64 a1.rq.nm, .slice pba a1.rq.body.length pbk, .slice pbb a1.dn.length pbj, .int .i64 a1.tr]), (w4.heap.size + 1, 24, [.int .i64 x1.fr, .int .i64 x1.to_, .int .i64 x1.kd, .int .i64 x1.nm, .slice qaa x1.body.length qak]), (w4.heap.size, 27, [.int .i64 a1.nx, .bool a1.wt, .int .i64 a1.rq.fr, .int .i64 a1.rq.to_, .int .i64 a1.rq.kd, .int .i64 a1.rq.nm, .slice paa a1.rq.body.length pak, .slice pab a1.dn.length paj, .int .i64 a1.tr]), (w.heap.size + 1, 24, [.int .i64 M.fr, .int .i64 M.to_, .int .i64 M.kd, .int .i64 M.nm, .slice ya M.body.length yk]), (w.heap.size, 27, [.int .i64 S.nx, .bool S.wt, .int .i64 S.rq.fr, .int .i64 S.rq.to_, .int .i64 S.rq.kd, .int .i64 S.rq.nm, .slice xa S.rq.body.length xk, .slice da S.dn.length dj, .int .i64 S.tr])] [.bs (.slice qda x2.body.length qdk) x2.body, .ms (.slice pdb a2.dn.length pdj) a2.dn, .bs (.slice pda a2.rq.body.length pdk) a2.rq.body, .bs (.slice qca x2.body.length qck) x2.body, .ms (.slice pcb a2.dn.length pcj) a2.dn, .bs (.slice pca a2.rq.body.length pck) a2.rq.body, .bs (.slice qba x1.body.length qbk) x1.body, .ms (.slice pbb a1.dn.length pbj) a1.dn, .bs (.slice pba a1.rq.body.length pbk) a1.rq.body, .bs (.slice qaa x1.body.length qak) x1.body, .ms (.slice pab a1.dn.length paj) a1.dn, .bs (.slice paa a1.rq.body.length pak) a1.rq.body, .bs (.slice ya M.body.length yk) M.body, .ms (.slice da S.dn.length dj) S.dn, .bs (.slice xa S.rq.body.length xk) S.rq.body] w7) := Lib.hid (E10.out.got (E10.out.got (E10.out.got (E10.out.below hb) (.bs (.slice pda a2.rq.body.length pdk) a2.rq.body) hpd.out) (.ms (.slice pdb a2.dn.length pdj) a2.dn) gpd.out) (.bs (.slice qda x2.body.length qdk) x2.body) hqd.out)
  clear c8_0 c8_1 c8_2 c8_3 c8_4 c8_5 c8_6 c8_7 c8_8 E9 E10 hb hpd gpd hqd
  have E12 : Hid (Env D w [(w7.heap.size + 1, 24, [.int .i64 x2.fr, .int .i64 x2.to_, .int .i64 x2.kd, .int .i64 x2.nm, .slice qda x2.body.length qdk]), (w7.heap.size, 27, [.int .i64 a2.nx, .bool a2.wt, .int .i64 a2.rq.fr, .int .i64 a2.rq.to_, .int .i64 a2.rq.kd, .int .i64 a2.rq.nm, .slice pda a2.rq.body.length pdk, .slice pdb a2.dn.length pdj, .int .i64 a2.tr]), (w6.heap.size + 1, 24, [.int .i64 x2.fr, .int .i64 x2.to_, .int .i64 x2.kd, .int .i64 x2.nm, .slice qca x2.body.length qck]), (w6.heap.size, 27, [.int .i64 a2.nx, .bool a2.wt, .int .i64 a2.rq.fr, .int .i64 a2.rq.to_, .int .i64 a2.rq.kd, .int .i64 a2.rq.nm, .slice pca a2.rq.body.length pck, .slice pcb a2.dn.length pcj, .int .i64 a2.tr]), (w5.heap.size + 1, 24, [.int .i64 x1.fr, .int .i64 x1.to_, .int .i64 x1.kd, .int .i64 x1.nm, .slice qba x1.body.length qbk]), (w5.heap.size, 27, [.int .i64 a1.nx, .bool a1.wt, .int .i64 a1.rq.fr, .int .i64 a1.rq.to_, .int .i64 a1.rq.kd, .int .i64 a1.rq.nm, .slice pba a1.rq.body.length pbk, .slice pbb a1.dn.length pbj, .int .i64 a1.tr]), (w4.heap.size + 1, 24, [.int .i64 x1.fr, .int .i64 x1.to_, .int .i64 x1.kd, .int .i64 x1.nm, .slice qaa x1.body.length qak]), (w4.heap.size, 27, [.int .i64 a1.nx, .bool a1.wt, .int .i64 a1.rq.fr, .int .i64 a1.rq.to_, .int .i64 a1.rq.kd, .int .i64 a1.rq.nm, .slice paa a1.rq.body.length pak, .slice pab a1.dn.length paj, .int .i64 a1.tr]), (w.heap.size + 1, 24, [.int .i64 M.fr, .int .i64 M.to_, .int .i64 M.kd, .int .i64 M.nm, .slice ya M.body.length yk]), (w.heap.size, 27, [.int .i64 S.nx, .bool S.wt, .int .i64 S.rq.fr, .int .i64 S.rq.to_, .int .i64 S.rq.kd, .int .i64 S.rq.nm, .slice xa S.rq.body.length xk, .slice da S.dn.length dj, .int .i64 S.tr])] [.bs (.slice qda x2.body.length qdk) x2.body, .ms (.slice pdb a2.dn.length pdj) a2.dn, .bs (.slice pda a2.rq.body.length pdk) a2.rq.body, .bs (.slice qca x2.body.length qck) x2.body, .ms (.slice pcb a2.dn.length pcj) a2.dn, .bs (.slice pca a2.rq.body.length pck) a2.rq.body, .bs (.slice qba x1.body.length qbk) x1.body, .ms (.slice pbb a1.dn.length pbj) a1.dn, .bs (.slice pba a1.rq.body.length pbk) a1.rq.body, .bs (.slice qaa x1.body.length qak) x1.body, .ms (.slice pab a1.dn.length paj) a1.dn, .bs (.slice paa a1.rq.body.length pak) a1.rq.body, .bs (.slice ya M.body.length yk) M.body, .ms (.slice da S.dn.length dj) S.dn, .bs (.slice xa S.rq.body.length xk) S.rq.body] _) := Lib.hid (((E11.out.push 27 [.int .i64 a2.nx, .bool a2.wt, .int .i64 a2.rq.fr, .int .i64 a2.rq.to_, .int .i64 a2.rq.kd, .int .i64 a2.rq.nm, .slice pda a2.rq.body.length pdk, .slice pdb a2.dn.length pdj, .int .i64 a2.tr] (w7.heap.size) (by simp)).push 24 [.int .i64 x2.fr, .int .i64 x2.to_, .int .i64 x2.kd, .int .i64 x2.nm, .slice qda x2.body.length qdk] (w7.heap.size + 1) (by simp)))
  have b9 := E12.out.bx 9 rfl
  have c9_0 := b9.cell 0 rfl
  have c9_1 := b9.cell 1 rfl
  have c9_2 := b9.cell 2 rfl
  have c9_3 := b9.cell 3 rfl
  have c9_4 := b9.cell 4 rfl
  have c9_5 := b9.cell 5 rfl
  have c9_6 := b9.cell 6 rfl
  have c9_7 := b9.cell 7 rfl
  have c9_8 := b9.cell 8 rfl
  clear b9
  have b10 := E12.out.bx 8 rfl
  have c10_0 := b10.cell 0 rfl
  have c10_1 := b10.cell 1 rfl
  have c10_2 := b10.cell 2 rfl
  have c10_3 := b10.cell 3 rfl
  have c10_4 := b10.cell 4 rfl
  clear b10
  go_wp2_with fail
  refine (c5.out _ _ _ _ _ _ _ _ (E12.out.fc 14 rfl) (E12.out.fc 13 rfl) (E12.out.fc 12 rfl)).mono ?_
  rintro e w8 ⟨⟨pea, pek, peb, pej, rfl, hpe, gpe⟩, hb⟩
  have E13 : Hid (Env D w [(w7.heap.size + 1, 24, [.int .i64 x2.fr, .int .i64 x2.to_, .int .i64 x2.kd, .int .i64 x2.nm, .slice qda x2.body.length qdk]), (w7.heap.size, 27, [.int .i64 a2.nx, .bool a2.wt, .int .i64 a2.rq.fr, .int .i64 a2.rq.to_, .int .i64 a2.rq.kd, .int .i64 a2.rq.nm, .slice pda a2.rq.body.length pdk, .slice pdb a2.dn.length pdj, .int .i64 a2.tr]), (w6.heap.size + 1, 24, [.int .i64 x2.fr, .int .i64 x2.to_, .int .i64 x2.kd, .int .i64 x2.nm, .slice qca x2.body.length qck]), (w6.heap.size, 27, [.int .i64 a2.nx, .bool a2.wt, .int .i64 a2.rq.fr, .int .i64 a2.rq.to_, .int .i64 a2.rq.kd, .int .i64 a2.rq.nm, .slice pca a2.rq.body.length pck, .slice pcb a2.dn.length pcj, .int .i64 a2.tr]), (w5.heap.size + 1, 24, [.int .i64 x1.fr, .int .i64 x1.to_, .int .i64 x1.kd, .int .i64 x1.nm, .slice qba x1.body.length qbk]), (w5.heap.size, 27, [.int .i64 a1.nx, .bool a1.wt, .int .i64 a1.rq.fr, .int .i64 a1.rq.to_, .int .i64 a1.rq.kd, .int .i64 a1.rq.nm, .slice pba a1.rq.body.length pbk, .slice pbb a1.dn.length pbj, .int .i64 a1.tr]), (w4.heap.size + 1, 24, [.int .i64 x1.fr, .int .i64 x1.to_, .int .i64 x1.kd, .int .i64 x1.nm, .slice qaa x1.body.length qak]), (w4.heap.size, 27, [.int .i64 a1.nx, .bool a1.wt, .int .i64 a1.rq.fr, .int .i64 a1.rq.to_, .int .i64 a1.rq.kd, .int .i64 a1.rq.nm, .slice paa a1.rq.body.length pak, .slice pab a1.dn.length paj, .int .i64 a1.tr]), (w.heap.size + 1, 24, [.int .i64 M.fr, .int .i64 M.to_, .int .i64 M.kd, .int .i64 M.nm, .slice ya M.body.length yk]), (w.heap.size, 27, [.int .i64 S.nx, .bool S.wt, .int .i64 S.rq.fr, .int .i64 S.rq.to_, .int .i64 S.rq.kd, .int .i64 S.rq.nm, .slice xa S.rq.body.length xk, .slice da S.dn.length dj, .int .i64 S.tr])] [.ms (.slice peb a3.dn.length pej) a3.dn, .bs (.slice pea a3.rq.body.length pek) a3.rq.body, .bs (.slice qda x2.body.length qdk) x2.body, .ms (.slice pdb a2.dn.length pdj) a2.dn, .bs (.slice pda a2.rq.body.length pdk) a2.rq.body, .bs (.slice qca x2.body.length qck) x2.body, .ms (.slice pcb a2.dn.length pcj) a2.dn, .bs (.slice pca a2.rq.body.length pck) a2.rq.body, .bs (.slice qba x1.body.length qbk) x1.body, .ms (.slice pbb a1.dn.length pbj) a1.dn, .bs (.slice pba a1.rq.body.length pbk) a1.rq.body, .bs (.slice qaa x1.body.length qak) x1.body, .ms (.slice pab a1.dn.length paj) a1.dn, .bs (.slice paa a1.rq.body.length pak) a1.rq.body, .bs (.slice ya M.body.length yk) M.body, .ms (.slice da S.dn.length dj) S.dn, .bs (.slice xa S.rq.body.length xk) S.rq.body] w8) := Lib.hid (E12.out.got (E12.out.got (E12.out.below hb) (.bs (.slice pea a3.rq.body.length pek) a3.rq.body) hpe.out) (.ms (.slice peb a3.dn.length pej) a3.dn) gpe.out)
  clear c9_0 c9_1 c9_2 c9_3 c9_4 c9_5 c9_6 c9_7 c9_8 c10_0 c10_1 c10_2 c10_3 c10_4 E11 E12 hb hpe gpe
  have E14 : Hid (Env D w [(w8.heap.size, 27, [.int .i64 a3.nx, .bool a3.wt, .int .i64 a3.rq.fr, .int .i64 a3.rq.to_, .int .i64 a3.rq.kd, .int .i64 a3.rq.nm, .slice pea a3.rq.body.length pek, .slice peb a3.dn.length pej, .int .i64 a3.tr]), (w7.heap.size + 1, 24, [.int .i64 x2.fr, .int .i64 x2.to_, .int .i64 x2.kd, .int .i64 x2.nm, .slice qda x2.body.length qdk]), (w7.heap.size, 27, [.int .i64 a2.nx, .bool a2.wt, .int .i64 a2.rq.fr, .int .i64 a2.rq.to_, .int .i64 a2.rq.kd, .int .i64 a2.rq.nm, .slice pda a2.rq.body.length pdk, .slice pdb a2.dn.length pdj, .int .i64 a2.tr]), (w6.heap.size + 1, 24, [.int .i64 x2.fr, .int .i64 x2.to_, .int .i64 x2.kd, .int .i64 x2.nm, .slice qca x2.body.length qck]), (w6.heap.size, 27, [.int .i64 a2.nx, .bool a2.wt, .int .i64 a2.rq.fr, .int .i64 a2.rq.to_, .int .i64 a2.rq.kd, .int .i64 a2.rq.nm, .slice pca a2.rq.body.length pck, .slice pcb a2.dn.length pcj, .int .i64 a2.tr]), (w5.heap.size + 1, 24, [.int .i64 x1.fr, .int .i64 x1.to_, .int .i64 x1.kd, .int .i64 x1.nm, .slice qba x1.body.length qbk]), (w5.heap.size, 27, [.int .i64 a1.nx, .bool a1.wt, .int .i64 a1.rq.fr, .int .i64 a1.rq.to_, .int .i64 a1.rq.kd, .int .i64 a1.rq.nm, .slice pba a1.rq.body.length pbk, .slice pbb a1.dn.length pbj, .int .i64 a1.tr]), (w4.heap.size + 1, 24, [.int .i64 x1.fr, .int .i64 x1.to_, .int .i64 x1.kd, .int .i64 x1.nm, .slice qaa x1.body.length qak]), (w4.heap.size, 27, [.int .i64 a1.nx, .bool a1.wt, .int .i64 a1.rq.fr, .int .i64 a1.rq.to_, .int .i64 a1.rq.kd, .int .i64 a1.rq.nm, .slice paa a1.rq.body.length pak, .slice pab a1.dn.length paj, .int .i64 a1.tr]), (w.heap.size + 1, 24, [.int .i64 M.fr, .int .i64 M.to_, .int .i64 M.kd, .int .i64 M.nm, .slice ya M.body.length yk]), (w.heap.size, 27, [.int .i64 S.nx, .bool S.wt, .int .i64 S.rq.fr, .int .i64 S.rq.to_, .int .i64 S.rq.kd, .int .i64 S.rq.nm, .slice xa S.rq.body.length xk, .slice da S.dn.length dj, .int .i64 S.tr])] [.ms (.slice peb a3.dn.length pej) a3.dn, .bs (.slice pea a3.rq.body.length pek) a3.rq.body, .bs (.slice qda x2.body.length qdk) x2.body, .ms (.slice pdb a2.dn.length pdj) a2.dn, .bs (.slice pda a2.rq.body.length pdk) a2.rq.body, .bs (.slice qca x2.body.length qck) x2.body, .ms (.slice pcb a2.dn.length pcj) a2.dn, .bs (.slice pca a2.rq.body.length pck) a2.rq.body, .bs (.slice qba x1.body.length qbk) x1.body, .ms (.slice pbb a1.dn.length pbj) a1.dn, .bs (.slice pba a1.rq.body.length pbk) a1.rq.body, .bs (.slice qaa x1.body.length qak) x1.body, .ms (.slice pab a1.dn.length paj) a1.dn, .bs (.slice paa a1.rq.body.length pak) a1.rq.body, .bs (.slice ya M.body.length yk) M.body, .ms (.slice da S.dn.length dj) S.dn, .bs (.slice xa S.rq.body.length xk) S.rq.body] _) := Lib.hid ((E13.out.push 27 [.int .i64 a3.nx, .bool a3.wt, .int .i64 a3.rq.fr, .int .i64 a3.rq.to_, .int .i64 a3.rq.kd, .int .i64 a3.rq.nm, .slice pea a3.rq.body.length pek, .slice peb a3.dn.length pej, .int .i64 a3.tr] (w8.heap.size) (by simp)))
  have b11 := E14.out.bx 10 rfl
  have c11_0 := b11.cell 0 rfl
  have c11_1 := b11.cell 1 rfl
  have c11_2 := b11.cell 2 rfl
  have c11_3 := b11.cell 3 rfl
  have c11_4 := b11.cell 4 rfl
  have c11_5 := b11.cell 5 rfl
  have c11_6 := b11.cell 6 rfl
  have c11_7 := b11.cell 7 rfl
  have c11_8 := b11.cell 8 rfl
  clear b11
  have b12 := E14.out.bx 9 rfl
  have c12_0 := b12.cell 0 rfl
  have c12_1 := b12.cell 1 rfl
  have c12_2 := b12.cell 2 rfl
  have c12_3 := b12.cell 3 rfl
  have c12_4 := b12.cell 4 rfl
  clear b12
  go_wp2_with fail
  refine (c6.out _ _ _ _ _ _ _ _ (E14.out.fc 16 rfl) (E14.out.fc 15 rfl) (E14.out.fc 14 rfl)).mono ?_
  rintro e w9 ⟨⟨pfa, pfk, pfb, pfj, rfl, hpf, gpf⟩, hb⟩
  have E15 : Hid (Env D w [(w8.heap.size, 27, [.int .i64 a3.nx, .bool a3.wt, .int .i64 a3.rq.fr, .int .i64 a3.rq.to_, .int .i64 a3.rq.kd, .int .i64 a3.rq.nm, .slice pea a3.rq.body.length pek, .slice peb a3.dn.length pej, .int .i64 a3.tr]), (w7.heap.size + 1, 24, [.int .i64 x2.fr, .int .i64 x2.to_, .int .i64 x2.kd, .int .i64 x2.nm, .slice qda x2.body.length qdk]), (w7.heap.size, 27, [.int .i64 a2.nx, .bool a2.wt, .int .i64 a2.rq.fr, .int .i64 a2.rq.to_, .int .i64 a2.rq.kd, .int .i64 a2.rq.nm, .slice pda a2.rq.body.length pdk, .slice pdb a2.dn.length pdj, .int .i64 a2.tr]), (w6.heap.size + 1, 24, [.int .i64 x2.fr, .int .i64 x2.to_, .int .i64 x2.kd, .int .i64 x2.nm, .slice qca x2.body.length qck]), (w6.heap.size, 27, [.int .i64 a2.nx, .bool a2.wt, .int .i64 a2.rq.fr, .int .i64 a2.rq.to_, .int .i64 a2.rq.kd, .int .i64 a2.rq.nm, .slice pca a2.rq.body.length pck, .slice pcb a2.dn.length pcj, .int .i64 a2.tr]), (w5.heap.size + 1, 24, [.int .i64 x1.fr, .int .i64 x1.to_, .int .i64 x1.kd, .int .i64 x1.nm, .slice qba x1.body.length qbk]), (w5.heap.size, 27, [.int .i64 a1.nx, .bool a1.wt, .int .i64 a1.rq.fr, .int .i64 a1.rq.to_, .int .i64 a1.rq.kd, .int .i64 a1.rq.nm, .slice pba a1.rq.body.length pbk, .slice pbb a1.dn.length pbj, .int .i64 a1.tr]), (w4.heap.size + 1, 24, [.int .i64 x1.fr, .int .i64 x1.to_, .int .i64 x1.kd, .int .i64 x1.nm, .slice qaa x1.body.length qak]), (w4.heap.size, 27, [.int .i64 a1.nx, .bool a1.wt, .int .i64 a1.rq.fr, .int .i64 a1.rq.to_, .int .i64 a1.rq.kd, .int .i64 a1.rq.nm, .slice paa a1.rq.body.length pak, .slice pab a1.dn.length paj, .int .i64 a1.tr]), (w.heap.size + 1, 24, [.int .i64 M.fr, .int .i64 M.to_, .int .i64 M.kd, .int .i64 M.nm, .slice ya M.body.length yk]), (w.heap.size, 27, [.int .i64 S.nx, .bool S.wt, .int .i64 S.rq.fr, .int .i64 S.rq.to_, .int .i64 S.rq.kd, .int .i64 S.rq.nm, .slice xa S.rq.body.length xk, .slice da S.dn.length dj, .int .i64 S.tr])] [.ms (.slice pfb a3.dn.length pfj) a3.dn, .bs (.slice pfa a3.rq.body.length pfk) a3.rq.body, .ms (.slice peb a3.dn.length pej) a3.dn, .bs (.slice pea a3.rq.body.length pek) a3.rq.body, .bs (.slice qda x2.body.length qdk) x2.body, .ms (.slice pdb a2.dn.length pdj) a2.dn, .bs (.slice pda a2.rq.body.length pdk) a2.rq.body, .bs (.slice qca x2.body.length qck) x2.body, .ms (.slice pcb a2.dn.length pcj) a2.dn, .bs (.slice pca a2.rq.body.length pck) a2.rq.body, .bs (.slice qba x1.body.length qbk) x1.body, .ms (.slice pbb a1.dn.length pbj) a1.dn, .bs (.slice pba a1.rq.body.length pbk) a1.rq.body, .bs (.slice qaa x1.body.length qak) x1.body, .ms (.slice pab a1.dn.length paj) a1.dn, .bs (.slice paa a1.rq.body.length pak) a1.rq.body, .bs (.slice ya M.body.length yk) M.body, .ms (.slice da S.dn.length dj) S.dn, .bs (.slice xa S.rq.body.length xk) S.rq.body] w9) := Lib.hid (E14.out.got (E14.out.got (E14.out.below hb) (.bs (.slice pfa a3.rq.body.length pfk) a3.rq.body) hpf.out) (.ms (.slice pfb a3.dn.length pfj) a3.dn) gpf.out)
  clear c11_0 c11_1 c11_2 c11_3 c11_4 c11_5 c11_6 c11_7 c11_8 c12_0 c12_1 c12_2 c12_3 c12_4 E13 E14 hb hpf gpf
  go_wp2_with fail
  have E16 : Hid (Env D w [(w9.heap.size, 27, [.int .i64 a3.nx, .bool a3.wt, .int .i64 a3.rq.fr, .int .i64 a3.rq.to_, .int .i64 a3.rq.kd, .int .i64 a3.rq.nm, .slice pfa a3.rq.body.length pfk, .slice pfb a3.dn.length pfj, .int .i64 a3.tr]), (w8.heap.size, 27, [.int .i64 a3.nx, .bool a3.wt, .int .i64 a3.rq.fr, .int .i64 a3.rq.to_, .int .i64 a3.rq.kd, .int .i64 a3.rq.nm, .slice pea a3.rq.body.length pek, .slice peb a3.dn.length pej, .int .i64 a3.tr]), (w7.heap.size + 1, 24, [.int .i64 x2.fr, .int .i64 x2.to_, .int .i64 x2.kd, .int .i64 x2.nm, .slice qda x2.body.length qdk]), (w7.heap.size, 27, [.int .i64 a2.nx, .bool a2.wt, .int .i64 a2.rq.fr, .int .i64 a2.rq.to_, .int .i64 a2.rq.kd, .int .i64 a2.rq.nm, .slice pda a2.rq.body.length pdk, .slice pdb a2.dn.length pdj, .int .i64 a2.tr]), (w6.heap.size + 1, 24, [.int .i64 x2.fr, .int .i64 x2.to_, .int .i64 x2.kd, .int .i64 x2.nm, .slice qca x2.body.length qck]), (w6.heap.size, 27, [.int .i64 a2.nx, .bool a2.wt, .int .i64 a2.rq.fr, .int .i64 a2.rq.to_, .int .i64 a2.rq.kd, .int .i64 a2.rq.nm, .slice pca a2.rq.body.length pck, .slice pcb a2.dn.length pcj, .int .i64 a2.tr]), (w5.heap.size + 1, 24, [.int .i64 x1.fr, .int .i64 x1.to_, .int .i64 x1.kd, .int .i64 x1.nm, .slice qba x1.body.length qbk]), (w5.heap.size, 27, [.int .i64 a1.nx, .bool a1.wt, .int .i64 a1.rq.fr, .int .i64 a1.rq.to_, .int .i64 a1.rq.kd, .int .i64 a1.rq.nm, .slice pba a1.rq.body.length pbk, .slice pbb a1.dn.length pbj, .int .i64 a1.tr]), (w4.heap.size + 1, 24, [.int .i64 x1.fr, .int .i64 x1.to_, .int .i64 x1.kd, .int .i64 x1.nm, .slice qaa x1.body.length qak]), (w4.heap.size, 27, [.int .i64 a1.nx, .bool a1.wt, .int .i64 a1.rq.fr, .int .i64 a1.rq.to_, .int .i64 a1.rq.kd, .int .i64 a1.rq.nm, .slice paa a1.rq.body.length pak, .slice pab a1.dn.length paj, .int .i64 a1.tr]), (w.heap.size + 1, 24, [.int .i64 M.fr, .int .i64 M.to_, .int .i64 M.kd, .int .i64 M.nm, .slice ya M.body.length yk]), (w.heap.size, 27, [.int .i64 S.nx, .bool S.wt, .int .i64 S.rq.fr, .int .i64 S.rq.to_, .int .i64 S.rq.kd, .int .i64 S.rq.nm, .slice xa S.rq.body.length xk, .slice da S.dn.length dj, .int .i64 S.tr])] [.ms (.slice pfb a3.dn.length pfj) a3.dn, .bs (.slice pfa a3.rq.body.length pfk) a3.rq.body, .ms (.slice peb a3.dn.length pej) a3.dn, .bs (.slice pea a3.rq.body.length pek) a3.rq.body, .bs (.slice qda x2.body.length qdk) x2.body, .ms (.slice pdb a2.dn.length pdj) a2.dn, .bs (.slice pda a2.rq.body.length pdk) a2.rq.body, .bs (.slice qca x2.body.length qck) x2.body, .ms (.slice pcb a2.dn.length pcj) a2.dn, .bs (.slice pca a2.rq.body.length pck) a2.rq.body, .bs (.slice qba x1.body.length qbk) x1.body, .ms (.slice pbb a1.dn.length pbj) a1.dn, .bs (.slice pba a1.rq.body.length pbk) a1.rq.body, .bs (.slice qaa x1.body.length qak) x1.body, .ms (.slice pab a1.dn.length paj) a1.dn, .bs (.slice paa a1.rq.body.length pak) a1.rq.body, .bs (.slice ya M.body.length yk) M.body, .ms (.slice da S.dn.length dj) S.dn, .bs (.slice xa S.rq.body.length xk) S.rq.body] _) := Lib.hid ((E15.out.push 27 [.int .i64 a3.nx, .bool a3.wt, .int .i64 a3.rq.fr, .int .i64 a3.rq.to_, .int .i64 a3.rq.kd, .int .i64 a3.rq.nm, .slice pfa a3.rq.body.length pfk, .slice pfb a3.dn.length pfj, .int .i64 a3.tr] (w9.heap.size) (by simp)))
  clear E15
  generalize w9.alloc (.cells #[.int .i64 a3.nx, .bool a3.wt, .int .i64 a3.rq.fr, .int .i64 a3.rq.to_, .int .i64 a3.rq.kd, .int .i64 a3.rq.nm, .slice pfa a3.rq.body.length pfk, .slice pfb a3.dn.length pfj, .int .i64 a3.tr] 27) = w10 at *
  have E17 : Hid (Env D w [(w9.heap.size, 27, [.int .i64 a3.nx, .bool a3.wt, .int .i64 a3.rq.fr, .int .i64 a3.rq.to_, .int .i64 a3.rq.kd, .int .i64 a3.rq.nm, .slice pfa a3.rq.body.length pfk, .slice pfb a3.dn.length pfj, .int .i64 a3.tr]), (w8.heap.size, 27, [.int .i64 a3.nx, .bool a3.wt, .int .i64 a3.rq.fr, .int .i64 a3.rq.to_, .int .i64 a3.rq.kd, .int .i64 a3.rq.nm, .slice pea a3.rq.body.length pek, .slice peb a3.dn.length pej, .int .i64 a3.tr]), (w7.heap.size + 1, 24, [.int .i64 x2.fr, .int .i64 x2.to_, .int .i64 x2.kd, .int .i64 x2.nm, .slice qda x2.body.length qdk]), (w7.heap.size, 27, [.int .i64 a2.nx, .bool a2.wt, .int .i64 a2.rq.fr, .int .i64 a2.rq.to_, .int .i64 a2.rq.kd, .int .i64 a2.rq.nm, .slice pda a2.rq.body.length pdk, .slice pdb a2.dn.length pdj, .int .i64 a2.tr]), (w6.heap.size + 1, 24, [.int .i64 x2.fr, .int .i64 x2.to_, .int .i64 x2.kd, .int .i64 x2.nm, .slice qca x2.body.length qck]), (w6.heap.size, 27, [.int .i64 a2.nx, .bool a2.wt, .int .i64 a2.rq.fr, .int .i64 a2.rq.to_, .int .i64 a2.rq.kd, .int .i64 a2.rq.nm, .slice pca a2.rq.body.length pck, .slice pcb a2.dn.length pcj, .int .i64 a2.tr]), (w5.heap.size + 1, 24, [.int .i64 x1.fr, .int .i64 x1.to_, .int .i64 x1.kd, .int .i64 x1.nm, .slice qba x1.body.length qbk]), (w5.heap.size, 27, [.int .i64 a1.nx, .bool a1.wt, .int .i64 a1.rq.fr, .int .i64 a1.rq.to_, .int .i64 a1.rq.kd, .int .i64 a1.rq.nm, .slice pba a1.rq.body.length pbk, .slice pbb a1.dn.length pbj, .int .i64 a1.tr]), (w4.heap.size + 1, 24, [.int .i64 x1.fr, .int .i64 x1.to_, .int .i64 x1.kd, .int .i64 x1.nm, .slice qaa x1.body.length qak]), (w4.heap.size, 27, [.int .i64 a1.nx, .bool a1.wt, .int .i64 a1.rq.fr, .int .i64 a1.rq.to_, .int .i64 a1.rq.kd, .int .i64 a1.rq.nm, .slice paa a1.rq.body.length pak, .slice pab a1.dn.length paj, .int .i64 a1.tr]), (w.heap.size + 1, 24, [.int .i64 M.fr, .int .i64 M.to_, .int .i64 M.kd, .int .i64 M.nm, .slice ya M.body.length yk]), (w.heap.size, 27, [.int .i64 S.nx, .bool S.wt, .int .i64 S.rq.fr, .int .i64 S.rq.to_, .int .i64 S.rq.kd, .int .i64 S.rq.nm, .slice xa S.rq.body.length xk, .slice da S.dn.length dj, .int .i64 S.tr])] [.ms (.slice pfb a3.dn.length pfj) a3.dn, .bs (.slice pfa a3.rq.body.length pfk) a3.rq.body, .ms (.slice peb a3.dn.length pej) a3.dn, .bs (.slice pea a3.rq.body.length pek) a3.rq.body, .bs (.slice qda x2.body.length qdk) x2.body, .ms (.slice pdb a2.dn.length pdj) a2.dn, .bs (.slice pda a2.rq.body.length pdk) a2.rq.body, .bs (.slice qca x2.body.length qck) x2.body, .ms (.slice pcb a2.dn.length pcj) a2.dn, .bs (.slice pca a2.rq.body.length pck) a2.rq.body, .bs (.slice qba x1.body.length qbk) x1.body, .ms (.slice pbb a1.dn.length pbj) a1.dn, .bs (.slice pba a1.rq.body.length pbk) a1.rq.body, .bs (.slice qaa x1.body.length qak) x1.body, .ms (.slice pab a1.dn.length paj) a1.dn, .bs (.slice paa a1.rq.body.length pak) a1.rq.body, .bs (.slice ya M.body.length yk) M.body, .ms (.slice da S.dn.length dj) S.dn, .bs (.slice xa S.rq.body.length xk) S.rq.body] (w10.drew)) := Lib.hid E16.out.drew
  clear E16
  refine wp_region_held_drew (S := fun w' => Hid (Env D w [(w9.heap.size, 27, [.int .i64 a3.nx, .bool a3.wt, .int .i64 a3.rq.fr, .int .i64 a3.rq.to_, .int .i64 a3.rq.kd, .int .i64 a3.rq.nm, .slice pfa a3.rq.body.length pfk, .slice pfb a3.dn.length pfj, .int .i64 a3.tr]), (w8.heap.size, 27, [.int .i64 a3.nx, .bool a3.wt, .int .i64 a3.rq.fr, .int .i64 a3.rq.to_, .int .i64 a3.rq.kd, .int .i64 a3.rq.nm, .slice pea a3.rq.body.length pek, .slice peb a3.dn.length pej, .int .i64 a3.tr]), (w7.heap.size + 1, 24, [.int .i64 x2.fr, .int .i64 x2.to_, .int .i64 x2.kd, .int .i64 x2.nm, .slice qda x2.body.length qdk]), (w7.heap.size, 27, [.int .i64 a2.nx, .bool a2.wt, .int .i64 a2.rq.fr, .int .i64 a2.rq.to_, .int .i64 a2.rq.kd, .int .i64 a2.rq.nm, .slice pda a2.rq.body.length pdk, .slice pdb a2.dn.length pdj, .int .i64 a2.tr]), (w6.heap.size + 1, 24, [.int .i64 x2.fr, .int .i64 x2.to_, .int .i64 x2.kd, .int .i64 x2.nm, .slice qca x2.body.length qck]), (w6.heap.size, 27, [.int .i64 a2.nx, .bool a2.wt, .int .i64 a2.rq.fr, .int .i64 a2.rq.to_, .int .i64 a2.rq.kd, .int .i64 a2.rq.nm, .slice pca a2.rq.body.length pck, .slice pcb a2.dn.length pcj, .int .i64 a2.tr]), (w5.heap.size + 1, 24, [.int .i64 x1.fr, .int .i64 x1.to_, .int .i64 x1.kd, .int .i64 x1.nm, .slice qba x1.body.length qbk]), (w5.heap.size, 27, [.int .i64 a1.nx, .bool a1.wt, .int .i64 a1.rq.fr, .int .i64 a1.rq.to_, .int .i64 a1.rq.kd, .int .i64 a1.rq.nm, .slice pba a1.rq.body.length pbk, .slice pbb a1.dn.length pbj, .int .i64 a1.tr]), (w4.heap.size + 1, 24, [.int .i64 x1.fr, .int .i64 x1.to_, .int .i64 x1.kd, .int .i64 x1.nm, .slice qaa x1.body.length qak]), (w4.heap.size, 27, [.int .i64 a1.nx, .bool a1.wt, .int .i64 a1.rq.fr, .int .i64 a1.rq.to_, .int .i64 a1.rq.kd, .int .i64 a1.rq.nm, .slice paa a1.rq.body.length pak, .slice pab a1.dn.length paj, .int .i64 a1.tr]), (w.heap.size + 1, 24, [.int .i64 M.fr, .int .i64 M.to_, .int .i64 M.kd, .int .i64 M.nm, .slice ya M.body.length yk]), (w.heap.size, 27, [.int .i64 S.nx, .bool S.wt, .int .i64 S.rq.fr, .int .i64 S.rq.to_, .int .i64 S.rq.kd, .int .i64 S.rq.nm, .slice xa S.rq.body.length xk, .slice da S.dn.length dj, .int .i64 S.tr])] [.ms (.slice pfb a3.dn.length pfj) a3.dn, .bs (.slice pfa a3.rq.body.length pfk) a3.rq.body, .ms (.slice peb a3.dn.length pej) a3.dn, .bs (.slice pea a3.rq.body.length pek) a3.rq.body, .bs (.slice qda x2.body.length qdk) x2.body, .ms (.slice pdb a2.dn.length pdj) a2.dn, .bs (.slice pda a2.rq.body.length pdk) a2.rq.body, .bs (.slice qca x2.body.length qck) x2.body, .ms (.slice pcb a2.dn.length pcj) a2.dn, .bs (.slice pca a2.rq.body.length pck) a2.rq.body, .bs (.slice qba x1.body.length qbk) x1.body, .ms (.slice pbb a1.dn.length pbj) a1.dn, .bs (.slice pba a1.rq.body.length pbk) a1.rq.body, .bs (.slice qaa x1.body.length qak) x1.body, .ms (.slice pab a1.dn.length paj) a1.dn, .bs (.slice paa a1.rq.body.length pak) a1.rq.body, .bs (.slice ya M.body.length yk) M.body, .ms (.slice da S.dn.length dj) S.dn, .bs (.slice xa S.rq.body.length xk) S.rq.body] w')) (by kernel_rfl) (Lib.hid E17.out) (fun hHeld => ?_)
  generalize w10.drew = w11 at *
  refine takeW (i := 1) (some 72) (v := ?_) rfl rfl (by kernel_rfl) (by kernel_rfl) (by kernel_rfl) (fun _ _ _ h => h) (by rfl) (by assumption) ?_ ?_
  rotate_left
  · (intro wS hSw; skip; go_simp; try with_reducible rfl)
  try simp only [Act.put, List.setIfInBounds_toArray, List.set_cons_zero, List.set_cons_succ]
  refine wpAnyH_ready (rs := [0]) (by kernel_rfl) (by simp) ?_
  refine AllReadyH.cons rfl (fun KK hKK => ?_) AllReadyH.nil
  go_simp
  refine (New_0 _).mono ?_
  rintro e w12 ⟨rfl, hbr⟩
  have E18 : Hid (Env D w [(w9.heap.size, 27, [.int .i64 a3.nx, .bool a3.wt, .int .i64 a3.rq.fr, .int .i64 a3.rq.to_, .int .i64 a3.rq.kd, .int .i64 a3.rq.nm, .slice pfa a3.rq.body.length pfk, .slice pfb a3.dn.length pfj, .int .i64 a3.tr]), (w8.heap.size, 27, [.int .i64 a3.nx, .bool a3.wt, .int .i64 a3.rq.fr, .int .i64 a3.rq.to_, .int .i64 a3.rq.kd, .int .i64 a3.rq.nm, .slice pea a3.rq.body.length pek, .slice peb a3.dn.length pej, .int .i64 a3.tr]), (w7.heap.size + 1, 24, [.int .i64 x2.fr, .int .i64 x2.to_, .int .i64 x2.kd, .int .i64 x2.nm, .slice qda x2.body.length qdk]), (w7.heap.size, 27, [.int .i64 a2.nx, .bool a2.wt, .int .i64 a2.rq.fr, .int .i64 a2.rq.to_, .int .i64 a2.rq.kd, .int .i64 a2.rq.nm, .slice pda a2.rq.body.length pdk, .slice pdb a2.dn.length pdj, .int .i64 a2.tr]), (w6.heap.size + 1, 24, [.int .i64 x2.fr, .int .i64 x2.to_, .int .i64 x2.kd, .int .i64 x2.nm, .slice qca x2.body.length qck]), (w6.heap.size, 27, [.int .i64 a2.nx, .bool a2.wt, .int .i64 a2.rq.fr, .int .i64 a2.rq.to_, .int .i64 a2.rq.kd, .int .i64 a2.rq.nm, .slice pca a2.rq.body.length pck, .slice pcb a2.dn.length pcj, .int .i64 a2.tr]), (w5.heap.size + 1, 24, [.int .i64 x1.fr, .int .i64 x1.to_, .int .i64 x1.kd, .int .i64 x1.nm, .slice qba x1.body.length qbk]), (w5.heap.size, 27, [.int .i64 a1.nx, .bool a1.wt, .int .i64 a1.rq.fr, .int .i64 a1.rq.to_, .int .i64 a1.rq.kd, .int .i64 a1.rq.nm, .slice pba a1.rq.body.length pbk, .slice pbb a1.dn.length pbj, .int .i64 a1.tr]), (w4.heap.size + 1, 24, [.int .i64 x1.fr, .int .i64 x1.to_, .int .i64 x1.kd, .int .i64 x1.nm, .slice qaa x1.body.length qak]), (w4.heap.size, 27, [.int .i64 a1.nx, .bool a1.wt, .int .i64 a1.rq.fr, .int .i64 a1.rq.to_, .int .i64 a1.rq.kd, .int .i64 a1.rq.nm, .slice paa a1.rq.body.length pak, .slice pab a1.dn.length paj, .int .i64 a1.tr]), (w.heap.size + 1, 24, [.int .i64 M.fr, .int .i64 M.to_, .int .i64 M.kd, .int .i64 M.nm, .slice ya M.body.length yk]), (w.heap.size, 27, [.int .i64 S.nx, .bool S.wt, .int .i64 S.rq.fr, .int .i64 S.rq.to_, .int .i64 S.rq.kd, .int .i64 S.rq.nm, .slice xa S.rq.body.length xk, .slice da S.dn.length dj, .int .i64 S.tr])] [.ms (.slice pfb a3.dn.length pfj) a3.dn, .bs (.slice pfa a3.rq.body.length pfk) a3.rq.body, .ms (.slice peb a3.dn.length pej) a3.dn, .bs (.slice pea a3.rq.body.length pek) a3.rq.body, .bs (.slice qda x2.body.length qdk) x2.body, .ms (.slice pdb a2.dn.length pdj) a2.dn, .bs (.slice pda a2.rq.body.length pdk) a2.rq.body, .bs (.slice qca x2.body.length qck) x2.body, .ms (.slice pcb a2.dn.length pcj) a2.dn, .bs (.slice pca a2.rq.body.length pck) a2.rq.body, .bs (.slice qba x1.body.length qbk) x1.body, .ms (.slice pbb a1.dn.length pbj) a1.dn, .bs (.slice pba a1.rq.body.length pbk) a1.rq.body, .bs (.slice qaa x1.body.length qak) x1.body, .ms (.slice pab a1.dn.length paj) a1.dn, .bs (.slice paa a1.rq.body.length pak) a1.rq.body, .bs (.slice ya M.body.length yk) M.body, .ms (.slice da S.dn.length dj) S.dn, .bs (.slice xa S.rq.body.length xk) S.rq.body] w12) := Lib.hid (E17.out.below hbr)
  clear E17 hbr
  (try dsimp only)
  clear hHeld
  refine hKK.out _ _ (Lib.hid E18.out) (fun hHeld => ?_)
  clear hKK KK
  try simp only [Act.put, List.setIfInBounds_toArray, List.set_cons_zero, List.set_cons_succ]
  refine wpAnyH_ready (rs := [2]) (by kernel_rfl) (by simp) ?_
  refine AllReadyH.cons rfl (fun KK hKK => ?_) AllReadyH.nil
  go_simp
  refine (rSess_t S0 S0.fair (Bs.nil _ _ : Fct.at _ (fun _ => False) (.bs (.slice none 0 0) [])) (Ms.nil _ _ : Fct.at _ (fun _ => False) (.ms (.slice none 0 0) [])) (Bs.nil _ _ : Fct.at _ (fun _ => False) (.bs (.slice none 0 0) [])) (Ms.nil _ _ : Fct.at _ (fun _ => False) (.ms (.slice none 0 0) []))).mono ?_
  rintro e w13 ⟨rfl, hbr⟩
  have E19 : Hid (Env D w [(w9.heap.size, 27, [.int .i64 a3.nx, .bool a3.wt, .int .i64 a3.rq.fr, .int .i64 a3.rq.to_, .int .i64 a3.rq.kd, .int .i64 a3.rq.nm, .slice pfa a3.rq.body.length pfk, .slice pfb a3.dn.length pfj, .int .i64 a3.tr]), (w8.heap.size, 27, [.int .i64 a3.nx, .bool a3.wt, .int .i64 a3.rq.fr, .int .i64 a3.rq.to_, .int .i64 a3.rq.kd, .int .i64 a3.rq.nm, .slice pea a3.rq.body.length pek, .slice peb a3.dn.length pej, .int .i64 a3.tr]), (w7.heap.size + 1, 24, [.int .i64 x2.fr, .int .i64 x2.to_, .int .i64 x2.kd, .int .i64 x2.nm, .slice qda x2.body.length qdk]), (w7.heap.size, 27, [.int .i64 a2.nx, .bool a2.wt, .int .i64 a2.rq.fr, .int .i64 a2.rq.to_, .int .i64 a2.rq.kd, .int .i64 a2.rq.nm, .slice pda a2.rq.body.length pdk, .slice pdb a2.dn.length pdj, .int .i64 a2.tr]), (w6.heap.size + 1, 24, [.int .i64 x2.fr, .int .i64 x2.to_, .int .i64 x2.kd, .int .i64 x2.nm, .slice qca x2.body.length qck]), (w6.heap.size, 27, [.int .i64 a2.nx, .bool a2.wt, .int .i64 a2.rq.fr, .int .i64 a2.rq.to_, .int .i64 a2.rq.kd, .int .i64 a2.rq.nm, .slice pca a2.rq.body.length pck, .slice pcb a2.dn.length pcj, .int .i64 a2.tr]), (w5.heap.size + 1, 24, [.int .i64 x1.fr, .int .i64 x1.to_, .int .i64 x1.kd, .int .i64 x1.nm, .slice qba x1.body.length qbk]), (w5.heap.size, 27, [.int .i64 a1.nx, .bool a1.wt, .int .i64 a1.rq.fr, .int .i64 a1.rq.to_, .int .i64 a1.rq.kd, .int .i64 a1.rq.nm, .slice pba a1.rq.body.length pbk, .slice pbb a1.dn.length pbj, .int .i64 a1.tr]), (w4.heap.size + 1, 24, [.int .i64 x1.fr, .int .i64 x1.to_, .int .i64 x1.kd, .int .i64 x1.nm, .slice qaa x1.body.length qak]), (w4.heap.size, 27, [.int .i64 a1.nx, .bool a1.wt, .int .i64 a1.rq.fr, .int .i64 a1.rq.to_, .int .i64 a1.rq.kd, .int .i64 a1.rq.nm, .slice paa a1.rq.body.length pak, .slice pab a1.dn.length paj, .int .i64 a1.tr]), (w.heap.size + 1, 24, [.int .i64 M.fr, .int .i64 M.to_, .int .i64 M.kd, .int .i64 M.nm, .slice ya M.body.length yk]), (w.heap.size, 27, [.int .i64 S.nx, .bool S.wt, .int .i64 S.rq.fr, .int .i64 S.rq.to_, .int .i64 S.rq.kd, .int .i64 S.rq.nm, .slice xa S.rq.body.length xk, .slice da S.dn.length dj, .int .i64 S.tr])] [.ms (.slice pfb a3.dn.length pfj) a3.dn, .bs (.slice pfa a3.rq.body.length pfk) a3.rq.body, .ms (.slice peb a3.dn.length pej) a3.dn, .bs (.slice pea a3.rq.body.length pek) a3.rq.body, .bs (.slice qda x2.body.length qdk) x2.body, .ms (.slice pdb a2.dn.length pdj) a2.dn, .bs (.slice pda a2.rq.body.length pdk) a2.rq.body, .bs (.slice qca x2.body.length qck) x2.body, .ms (.slice pcb a2.dn.length pcj) a2.dn, .bs (.slice pca a2.rq.body.length pck) a2.rq.body, .bs (.slice qba x1.body.length qbk) x1.body, .ms (.slice pbb a1.dn.length pbj) a1.dn, .bs (.slice pba a1.rq.body.length pbk) a1.rq.body, .bs (.slice qaa x1.body.length qak) x1.body, .ms (.slice pab a1.dn.length paj) a1.dn, .bs (.slice paa a1.rq.body.length pak) a1.rq.body, .bs (.slice ya M.body.length yk) M.body, .ms (.slice da S.dn.length dj) S.dn, .bs (.slice xa S.rq.body.length xk) S.rq.body] w13) := Lib.hid (E18.out.below hbr)
  clear E18 hbr
  (try dsimp only)
  clear hHeld
  refine hKK.out _ _ (Lib.hid E19.out) (fun hHeld => ?_)
  clear hKK KK
  try simp only [Act.put, List.setIfInBounds_toArray, List.set_cons_zero, List.set_cons_succ]
  refine takeW (i := 3) (some 74) (v := ?_) rfl rfl (by kernel_rfl) (by kernel_rfl) (by kernel_rfl) (fun _ _ _ h => h) (by rfl) (by assumption) ?_ ?_
  rotate_left
  · (intro wS hSw; skip; go_simp; try with_reducible rfl)
  try simp only [Act.put, List.setIfInBounds_toArray, List.set_cons_zero, List.set_cons_succ]
  refine takeW (i := 4) (some 75) (v := ?_) rfl rfl (by kernel_rfl) (by kernel_rfl) (by kernel_rfl) (fun _ _ _ h => h) (by rfl) (by assumption) ?_ ?_
  rotate_left
  · (intro wS hSw; have bq := hSw.out.bx 11 rfl; have q0 := bq.cell 0 rfl; have q1 := bq.cell 1 rfl; have q2 := bq.cell 2 rfl; have q3 := bq.cell 3 rfl; have q4 := bq.cell 4 rfl; have q5 := bq.cell 5 rfl; have q6 := bq.cell 6 rfl; have q7 := bq.cell 7 rfl; have q8 := bq.cell 8 rfl; clear bq hSw; go_simp; try with_reducible rfl)
  try simp only [Act.put, List.setIfInBounds_toArray, List.set_cons_zero, List.set_cons_succ]
  refine takeW (i := 6) (some 77) (v := ?_) rfl rfl (by kernel_rfl) (by kernel_rfl) (by kernel_rfl) (fun _ _ _ h => h) (by rfl) (by assumption) ?_ ?_
  rotate_left
  · (intro wS hSw; have bq := hSw.out.bx 11 rfl; have q0 := bq.cell 0 rfl; have q1 := bq.cell 1 rfl; have q2 := bq.cell 2 rfl; have q3 := bq.cell 3 rfl; have q4 := bq.cell 4 rfl; have q5 := bq.cell 5 rfl; have q6 := bq.cell 6 rfl; have q7 := bq.cell 7 rfl; have q8 := bq.cell 8 rfl; clear bq hSw; go_simp; try with_reducible rfl)
  try simp only [Act.put, List.setIfInBounds_toArray, List.set_cons_zero, List.set_cons_succ]
  refine wpAnyH_ready (rs := [5]) (by kernel_rfl) (by simp) ?_
  refine AllReadyH.cons rfl (fun KK hKK => ?_) AllReadyH.nil
  go_simp
  refine (cv.out _ _ _ _ _ _ (E19.out.fc 18 rfl) (E19.out.fc 17 rfl)).mono ?_
  rintro e w14 ⟨rfl, hbr⟩
  have E20 : Hid (Env D w [(w9.heap.size, 27, [.int .i64 a3.nx, .bool a3.wt, .int .i64 a3.rq.fr, .int .i64 a3.rq.to_, .int .i64 a3.rq.kd, .int .i64 a3.rq.nm, .slice pfa a3.rq.body.length pfk, .slice pfb a3.dn.length pfj, .int .i64 a3.tr]), (w8.heap.size, 27, [.int .i64 a3.nx, .bool a3.wt, .int .i64 a3.rq.fr, .int .i64 a3.rq.to_, .int .i64 a3.rq.kd, .int .i64 a3.rq.nm, .slice pea a3.rq.body.length pek, .slice peb a3.dn.length pej, .int .i64 a3.tr]), (w7.heap.size + 1, 24, [.int .i64 x2.fr, .int .i64 x2.to_, .int .i64 x2.kd, .int .i64 x2.nm, .slice qda x2.body.length qdk]), (w7.heap.size, 27, [.int .i64 a2.nx, .bool a2.wt, .int .i64 a2.rq.fr, .int .i64 a2.rq.to_, .int .i64 a2.rq.kd, .int .i64 a2.rq.nm, .slice pda a2.rq.body.length pdk, .slice pdb a2.dn.length pdj, .int .i64 a2.tr]), (w6.heap.size + 1, 24, [.int .i64 x2.fr, .int .i64 x2.to_, .int .i64 x2.kd, .int .i64 x2.nm, .slice qca x2.body.length qck]), (w6.heap.size, 27, [.int .i64 a2.nx, .bool a2.wt, .int .i64 a2.rq.fr, .int .i64 a2.rq.to_, .int .i64 a2.rq.kd, .int .i64 a2.rq.nm, .slice pca a2.rq.body.length pck, .slice pcb a2.dn.length pcj, .int .i64 a2.tr]), (w5.heap.size + 1, 24, [.int .i64 x1.fr, .int .i64 x1.to_, .int .i64 x1.kd, .int .i64 x1.nm, .slice qba x1.body.length qbk]), (w5.heap.size, 27, [.int .i64 a1.nx, .bool a1.wt, .int .i64 a1.rq.fr, .int .i64 a1.rq.to_, .int .i64 a1.rq.kd, .int .i64 a1.rq.nm, .slice pba a1.rq.body.length pbk, .slice pbb a1.dn.length pbj, .int .i64 a1.tr]), (w4.heap.size + 1, 24, [.int .i64 x1.fr, .int .i64 x1.to_, .int .i64 x1.kd, .int .i64 x1.nm, .slice qaa x1.body.length qak]), (w4.heap.size, 27, [.int .i64 a1.nx, .bool a1.wt, .int .i64 a1.rq.fr, .int .i64 a1.rq.to_, .int .i64 a1.rq.kd, .int .i64 a1.rq.nm, .slice paa a1.rq.body.length pak, .slice pab a1.dn.length paj, .int .i64 a1.tr]), (w.heap.size + 1, 24, [.int .i64 M.fr, .int .i64 M.to_, .int .i64 M.kd, .int .i64 M.nm, .slice ya M.body.length yk]), (w.heap.size, 27, [.int .i64 S.nx, .bool S.wt, .int .i64 S.rq.fr, .int .i64 S.rq.to_, .int .i64 S.rq.kd, .int .i64 S.rq.nm, .slice xa S.rq.body.length xk, .slice da S.dn.length dj, .int .i64 S.tr])] [.ms (.slice pfb a3.dn.length pfj) a3.dn, .bs (.slice pfa a3.rq.body.length pfk) a3.rq.body, .ms (.slice peb a3.dn.length pej) a3.dn, .bs (.slice pea a3.rq.body.length pek) a3.rq.body, .bs (.slice qda x2.body.length qdk) x2.body, .ms (.slice pdb a2.dn.length pdj) a2.dn, .bs (.slice pda a2.rq.body.length pdk) a2.rq.body, .bs (.slice qca x2.body.length qck) x2.body, .ms (.slice pcb a2.dn.length pcj) a2.dn, .bs (.slice pca a2.rq.body.length pck) a2.rq.body, .bs (.slice qba x1.body.length qbk) x1.body, .ms (.slice pbb a1.dn.length pbj) a1.dn, .bs (.slice pba a1.rq.body.length pbk) a1.rq.body, .bs (.slice qaa x1.body.length qak) x1.body, .ms (.slice pab a1.dn.length paj) a1.dn, .bs (.slice paa a1.rq.body.length pak) a1.rq.body, .bs (.slice ya M.body.length yk) M.body, .ms (.slice da S.dn.length dj) S.dn, .bs (.slice xa S.rq.body.length xk) S.rq.body] w14) := Lib.hid (E19.out.below hbr)
  clear E19 hbr
  (try dsimp only)
  clear hHeld
  refine hKK.out _ _ (Lib.hid E20.out) (fun hHeld => ?_)
  clear hKK KK
  try simp only [Act.put, List.setIfInBounds_toArray, List.set_cons_zero, List.set_cons_succ]
  refine wpAnyH_ready (rs := [7]) (by kernel_rfl) (by simp) ?_
  refine AllReadyH.cons rfl (fun KK hKK => ?_) AllReadyH.nil
  go_simp
  refine (cw.out _ _ _ _ _ _ (E20.out.fc 18 rfl) (E20.out.fc 17 rfl)).mono ?_
  rintro e w15 ⟨rfl, hbr⟩
  have E21 : Hid (Env D w [(w9.heap.size, 27, [.int .i64 a3.nx, .bool a3.wt, .int .i64 a3.rq.fr, .int .i64 a3.rq.to_, .int .i64 a3.rq.kd, .int .i64 a3.rq.nm, .slice pfa a3.rq.body.length pfk, .slice pfb a3.dn.length pfj, .int .i64 a3.tr]), (w8.heap.size, 27, [.int .i64 a3.nx, .bool a3.wt, .int .i64 a3.rq.fr, .int .i64 a3.rq.to_, .int .i64 a3.rq.kd, .int .i64 a3.rq.nm, .slice pea a3.rq.body.length pek, .slice peb a3.dn.length pej, .int .i64 a3.tr]), (w7.heap.size + 1, 24, [.int .i64 x2.fr, .int .i64 x2.to_, .int .i64 x2.kd, .int .i64 x2.nm, .slice qda x2.body.length qdk]), (w7.heap.size, 27, [.int .i64 a2.nx, .bool a2.wt, .int .i64 a2.rq.fr, .int .i64 a2.rq.to_, .int .i64 a2.rq.kd, .int .i64 a2.rq.nm, .slice pda a2.rq.body.length pdk, .slice pdb a2.dn.length pdj, .int .i64 a2.tr]), (w6.heap.size + 1, 24, [.int .i64 x2.fr, .int .i64 x2.to_, .int .i64 x2.kd, .int .i64 x2.nm, .slice qca x2.body.length qck]), (w6.heap.size, 27, [.int .i64 a2.nx, .bool a2.wt, .int .i64 a2.rq.fr, .int .i64 a2.rq.to_, .int .i64 a2.rq.kd, .int .i64 a2.rq.nm, .slice pca a2.rq.body.length pck, .slice pcb a2.dn.length pcj, .int .i64 a2.tr]), (w5.heap.size + 1, 24, [.int .i64 x1.fr, .int .i64 x1.to_, .int .i64 x1.kd, .int .i64 x1.nm, .slice qba x1.body.length qbk]), (w5.heap.size, 27, [.int .i64 a1.nx, .bool a1.wt, .int .i64 a1.rq.fr, .int .i64 a1.rq.to_, .int .i64 a1.rq.kd, .int .i64 a1.rq.nm, .slice pba a1.rq.body.length pbk, .slice pbb a1.dn.length pbj, .int .i64 a1.tr]), (w4.heap.size + 1, 24, [.int .i64 x1.fr, .int .i64 x1.to_, .int .i64 x1.kd, .int .i64 x1.nm, .slice qaa x1.body.length qak]), (w4.heap.size, 27, [.int .i64 a1.nx, .bool a1.wt, .int .i64 a1.rq.fr, .int .i64 a1.rq.to_, .int .i64 a1.rq.kd, .int .i64 a1.rq.nm, .slice paa a1.rq.body.length pak, .slice pab a1.dn.length paj, .int .i64 a1.tr]), (w.heap.size + 1, 24, [.int .i64 M.fr, .int .i64 M.to_, .int .i64 M.kd, .int .i64 M.nm, .slice ya M.body.length yk]), (w.heap.size, 27, [.int .i64 S.nx, .bool S.wt, .int .i64 S.rq.fr, .int .i64 S.rq.to_, .int .i64 S.rq.kd, .int .i64 S.rq.nm, .slice xa S.rq.body.length xk, .slice da S.dn.length dj, .int .i64 S.tr])] [.ms (.slice pfb a3.dn.length pfj) a3.dn, .bs (.slice pfa a3.rq.body.length pfk) a3.rq.body, .ms (.slice peb a3.dn.length pej) a3.dn, .bs (.slice pea a3.rq.body.length pek) a3.rq.body, .bs (.slice qda x2.body.length qdk) x2.body, .ms (.slice pdb a2.dn.length pdj) a2.dn, .bs (.slice pda a2.rq.body.length pdk) a2.rq.body, .bs (.slice qca x2.body.length qck) x2.body, .ms (.slice pcb a2.dn.length pcj) a2.dn, .bs (.slice pca a2.rq.body.length pck) a2.rq.body, .bs (.slice qba x1.body.length qbk) x1.body, .ms (.slice pbb a1.dn.length pbj) a1.dn, .bs (.slice pba a1.rq.body.length pbk) a1.rq.body, .bs (.slice qaa x1.body.length qak) x1.body, .ms (.slice pab a1.dn.length paj) a1.dn, .bs (.slice paa a1.rq.body.length pak) a1.rq.body, .bs (.slice ya M.body.length yk) M.body, .ms (.slice da S.dn.length dj) S.dn, .bs (.slice xa S.rq.body.length xk) S.rq.body] w15) := Lib.hid (E20.out.below hbr)
  clear E20 hbr
  (try dsimp only)
  clear hHeld
  refine hKK.out _ _ (Lib.hid E21.out) (fun hHeld => ?_)
  clear hKK KK
  try simp only [Act.put, List.setIfInBounds_toArray, List.set_cons_zero, List.set_cons_succ]
  refine takeW (i := 8) (some 79) (v := ?_) rfl rfl (by kernel_rfl) (by kernel_rfl) (by kernel_rfl) (fun _ _ _ h => h) (by rfl) (by assumption) ?_ ?_
  rotate_left
  · (intro wS hSw; skip; go_simp; try with_reducible rfl)
  try simp only [Act.put, List.setIfInBounds_toArray, List.set_cons_zero, List.set_cons_succ]
  refine takeW (i := 9) (some 80) (v := ?_) rfl rfl (by kernel_rfl) (by kernel_rfl) (by kernel_rfl) (fun _ _ _ h => h) (by rfl) (by assumption) ?_ ?_
  rotate_left
  · (intro wS hSw; skip; go_simp; try with_reducible rfl)
  try simp only [Act.put, List.setIfInBounds_toArray, List.set_cons_zero, List.set_cons_succ]
  refine takeW (i := 10) (some 81) (v := ?_) rfl rfl (by kernel_rfl) (by kernel_rfl) (by kernel_rfl) (fun _ _ _ h => h) (by rfl) (by assumption) ?_ ?_
  rotate_left
  · (intro wS hSw; skip; go_simp; try with_reducible rfl)
  try simp only [Act.put, List.setIfInBounds_toArray, List.set_cons_zero, List.set_cons_succ]
  refine takeW (i := 11) (some 82) (v := ?_) rfl rfl (by kernel_rfl) (by kernel_rfl) (by kernel_rfl) (fun _ _ _ h => h) (by rfl) (by assumption) ?_ ?_
  rotate_left
  · (intro wS hSw; have bq := hSw.out.bx 9 rfl; have q0 := bq.cell 0 rfl; have q1 := bq.cell 1 rfl; have q2 := bq.cell 2 rfl; have q3 := bq.cell 3 rfl; have q4 := bq.cell 4 rfl; have q5 := bq.cell 5 rfl; have q6 := bq.cell 6 rfl; have q7 := bq.cell 7 rfl; have q8 := bq.cell 8 rfl; clear bq hSw; go_simp; try with_reducible rfl)
  try simp only [Act.put, List.setIfInBounds_toArray, List.set_cons_zero, List.set_cons_succ]
  refine takeW (i := 12) (some 83) (v := ?_) rfl rfl (by kernel_rfl) (by kernel_rfl) (by kernel_rfl) (fun _ _ _ h => h) (by rfl) (by assumption) ?_ ?_
  rotate_left
  · (intro wS hSw; have bq := hSw.out.bx 7 rfl; have q0 := bq.cell 0 rfl; have q1 := bq.cell 1 rfl; have q2 := bq.cell 2 rfl; have q3 := bq.cell 3 rfl; have q4 := bq.cell 4 rfl; have q5 := bq.cell 5 rfl; have q6 := bq.cell 6 rfl; have q7 := bq.cell 7 rfl; have q8 := bq.cell 8 rfl; clear bq hSw; go_simp; try with_reducible rfl)
  try simp only [Act.put, List.setIfInBounds_toArray, List.set_cons_zero, List.set_cons_succ]
  refine wpAnyH_ready (rs := [13]) (by kernel_rfl) (by simp) ?_
  refine AllReadyH.cons rfl (fun KK hKK => ?_) AllReadyH.nil
  go_simp
  refine (rSess_t a1 f1.out.1 (E21.out.fc 15 rfl) (E21.out.fc 14 rfl) (E21.out.fc 12 rfl) (E21.out.fc 11 rfl)).mono ?_
  rintro e w16 ⟨rfl, hbr⟩
  have E22 : Hid (Env D w [(w9.heap.size, 27, [.int .i64 a3.nx, .bool a3.wt, .int .i64 a3.rq.fr, .int .i64 a3.rq.to_, .int .i64 a3.rq.kd, .int .i64 a3.rq.nm, .slice pfa a3.rq.body.length pfk, .slice pfb a3.dn.length pfj, .int .i64 a3.tr]), (w8.heap.size, 27, [.int .i64 a3.nx, .bool a3.wt, .int .i64 a3.rq.fr, .int .i64 a3.rq.to_, .int .i64 a3.rq.kd, .int .i64 a3.rq.nm, .slice pea a3.rq.body.length pek, .slice peb a3.dn.length pej, .int .i64 a3.tr]), (w7.heap.size + 1, 24, [.int .i64 x2.fr, .int .i64 x2.to_, .int .i64 x2.kd, .int .i64 x2.nm, .slice qda x2.body.length qdk]), (w7.heap.size, 27, [.int .i64 a2.nx, .bool a2.wt, .int .i64 a2.rq.fr, .int .i64 a2.rq.to_, .int .i64 a2.rq.kd, .int .i64 a2.rq.nm, .slice pda a2.rq.body.length pdk, .slice pdb a2.dn.length pdj, .int .i64 a2.tr]), (w6.heap.size + 1, 24, [.int .i64 x2.fr, .int .i64 x2.to_, .int .i64 x2.kd, .int .i64 x2.nm, .slice qca x2.body.length qck]), (w6.heap.size, 27, [.int .i64 a2.nx, .bool a2.wt, .int .i64 a2.rq.fr, .int .i64 a2.rq.to_, .int .i64 a2.rq.kd, .int .i64 a2.rq.nm, .slice pca a2.rq.body.length pck, .slice pcb a2.dn.length pcj, .int .i64 a2.tr]), (w5.heap.size + 1, 24, [.int .i64 x1.fr, .int .i64 x1.to_, .int .i64 x1.kd, .int .i64 x1.nm, .slice qba x1.body.length qbk]), (w5.heap.size, 27, [.int .i64 a1.nx, .bool a1.wt, .int .i64 a1.rq.fr, .int .i64 a1.rq.to_, .int .i64 a1.rq.kd, .int .i64 a1.rq.nm, .slice pba a1.rq.body.length pbk, .slice pbb a1.dn.length pbj, .int .i64 a1.tr]), (w4.heap.size + 1, 24, [.int .i64 x1.fr, .int .i64 x1.to_, .int .i64 x1.kd, .int .i64 x1.nm, .slice qaa x1.body.length qak]), (w4.heap.size, 27, [.int .i64 a1.nx, .bool a1.wt, .int .i64 a1.rq.fr, .int .i64 a1.rq.to_, .int .i64 a1.rq.kd, .int .i64 a1.rq.nm, .slice paa a1.rq.body.length pak, .slice pab a1.dn.length paj, .int .i64 a1.tr]), (w.heap.size + 1, 24, [.int .i64 M.fr, .int .i64 M.to_, .int .i64 M.kd, .int .i64 M.nm, .slice ya M.body.length yk]), (w.heap.size, 27, [.int .i64 S.nx, .bool S.wt, .int .i64 S.rq.fr, .int .i64 S.rq.to_, .int .i64 S.rq.kd, .int .i64 S.rq.nm, .slice xa S.rq.body.length xk, .slice da S.dn.length dj, .int .i64 S.tr])] [.ms (.slice pfb a3.dn.length pfj) a3.dn, .bs (.slice pfa a3.rq.body.length pfk) a3.rq.body, .ms (.slice peb a3.dn.length pej) a3.dn, .bs (.slice pea a3.rq.body.length pek) a3.rq.body, .bs (.slice qda x2.body.length qdk) x2.body, .ms (.slice pdb a2.dn.length pdj) a2.dn, .bs (.slice pda a2.rq.body.length pdk) a2.rq.body, .bs (.slice qca x2.body.length qck) x2.body, .ms (.slice pcb a2.dn.length pcj) a2.dn, .bs (.slice pca a2.rq.body.length pck) a2.rq.body, .bs (.slice qba x1.body.length qbk) x1.body, .ms (.slice pbb a1.dn.length pbj) a1.dn, .bs (.slice pba a1.rq.body.length pbk) a1.rq.body, .bs (.slice qaa x1.body.length qak) x1.body, .ms (.slice pab a1.dn.length paj) a1.dn, .bs (.slice paa a1.rq.body.length pak) a1.rq.body, .bs (.slice ya M.body.length yk) M.body, .ms (.slice da S.dn.length dj) S.dn, .bs (.slice xa S.rq.body.length xk) S.rq.body] w16) := Lib.hid (E21.out.below hbr)
  clear E21 hbr
  (try dsimp only)
  clear hHeld
  refine hKK.out _ _ (Lib.hid E22.out) (fun hHeld => ?_)
  clear hKK KK
  try simp only [Act.put, List.setIfInBounds_toArray, List.set_cons_zero, List.set_cons_succ]
  refine takeW (i := 14) (some 85) (v := ?_) rfl rfl (by kernel_rfl) (by kernel_rfl) (by kernel_rfl) (fun _ _ _ h => h) (by rfl) (by assumption) ?_ ?_
  rotate_left
  · (intro wS hSw; skip; go_simp; try with_reducible rfl)
  try simp only [Act.put, List.setIfInBounds_toArray, List.set_cons_zero, List.set_cons_succ]
  refine takeW (i := 15) (some 86) (v := ?_) rfl rfl (by kernel_rfl) (by kernel_rfl) (by kernel_rfl) (fun _ _ _ h => h) (by rfl) (by assumption) ?_ ?_
  rotate_left
  · (intro wS hSw; skip; go_simp; try with_reducible rfl)
  try simp only [Act.put, List.setIfInBounds_toArray, List.set_cons_zero, List.set_cons_succ]
  refine takeW (i := 16) (some 87) (v := ?_) rfl rfl (by kernel_rfl) (by kernel_rfl) (by kernel_rfl) (fun _ _ _ h => h) (by rfl) (by assumption) ?_ ?_
  rotate_left
  · (intro wS hSw; have bq := hSw.out.bx 8 rfl; have q0 := bq.cell 0 rfl; have q1 := bq.cell 1 rfl; have q2 := bq.cell 2 rfl; have q3 := bq.cell 3 rfl; have q4 := bq.cell 4 rfl; clear bq hSw; go_simp; try with_reducible rfl)
  try simp only [Act.put, List.setIfInBounds_toArray, List.set_cons_zero, List.set_cons_succ]
  refine takeW (i := 17) (some 88) (v := ?_) rfl rfl (by kernel_rfl) (by kernel_rfl) (by kernel_rfl) (fun _ _ _ h => h) (by rfl) (by assumption) ?_ ?_
  rotate_left
  · (intro wS hSw; have bq := hSw.out.bx 6 rfl; have q0 := bq.cell 0 rfl; have q1 := bq.cell 1 rfl; have q2 := bq.cell 2 rfl; have q3 := bq.cell 3 rfl; have q4 := bq.cell 4 rfl; clear bq hSw; go_simp; try with_reducible rfl)
  try simp only [Act.put, List.setIfInBounds_toArray, List.set_cons_zero, List.set_cons_succ]
  refine wpAnyH_ready (rs := [18]) (by kernel_rfl) (by simp) ?_
  refine AllReadyH.cons rfl (fun KK hKK => ?_) AllReadyH.nil
  go_simp
  refine (rSame_t x1 f1.out.2 (E22.out.fc 13 rfl) (E22.out.fc 10 rfl)).mono ?_
  rintro e w17 ⟨rfl, hbr⟩
  have E23 : Hid (Env D w [(w9.heap.size, 27, [.int .i64 a3.nx, .bool a3.wt, .int .i64 a3.rq.fr, .int .i64 a3.rq.to_, .int .i64 a3.rq.kd, .int .i64 a3.rq.nm, .slice pfa a3.rq.body.length pfk, .slice pfb a3.dn.length pfj, .int .i64 a3.tr]), (w8.heap.size, 27, [.int .i64 a3.nx, .bool a3.wt, .int .i64 a3.rq.fr, .int .i64 a3.rq.to_, .int .i64 a3.rq.kd, .int .i64 a3.rq.nm, .slice pea a3.rq.body.length pek, .slice peb a3.dn.length pej, .int .i64 a3.tr]), (w7.heap.size + 1, 24, [.int .i64 x2.fr, .int .i64 x2.to_, .int .i64 x2.kd, .int .i64 x2.nm, .slice qda x2.body.length qdk]), (w7.heap.size, 27, [.int .i64 a2.nx, .bool a2.wt, .int .i64 a2.rq.fr, .int .i64 a2.rq.to_, .int .i64 a2.rq.kd, .int .i64 a2.rq.nm, .slice pda a2.rq.body.length pdk, .slice pdb a2.dn.length pdj, .int .i64 a2.tr]), (w6.heap.size + 1, 24, [.int .i64 x2.fr, .int .i64 x2.to_, .int .i64 x2.kd, .int .i64 x2.nm, .slice qca x2.body.length qck]), (w6.heap.size, 27, [.int .i64 a2.nx, .bool a2.wt, .int .i64 a2.rq.fr, .int .i64 a2.rq.to_, .int .i64 a2.rq.kd, .int .i64 a2.rq.nm, .slice pca a2.rq.body.length pck, .slice pcb a2.dn.length pcj, .int .i64 a2.tr]), (w5.heap.size + 1, 24, [.int .i64 x1.fr, .int .i64 x1.to_, .int .i64 x1.kd, .int .i64 x1.nm, .slice qba x1.body.length qbk]), (w5.heap.size, 27, [.int .i64 a1.nx, .bool a1.wt, .int .i64 a1.rq.fr, .int .i64 a1.rq.to_, .int .i64 a1.rq.kd, .int .i64 a1.rq.nm, .slice pba a1.rq.body.length pbk, .slice pbb a1.dn.length pbj, .int .i64 a1.tr]), (w4.heap.size + 1, 24, [.int .i64 x1.fr, .int .i64 x1.to_, .int .i64 x1.kd, .int .i64 x1.nm, .slice qaa x1.body.length qak]), (w4.heap.size, 27, [.int .i64 a1.nx, .bool a1.wt, .int .i64 a1.rq.fr, .int .i64 a1.rq.to_, .int .i64 a1.rq.kd, .int .i64 a1.rq.nm, .slice paa a1.rq.body.length pak, .slice pab a1.dn.length paj, .int .i64 a1.tr]), (w.heap.size + 1, 24, [.int .i64 M.fr, .int .i64 M.to_, .int .i64 M.kd, .int .i64 M.nm, .slice ya M.body.length yk]), (w.heap.size, 27, [.int .i64 S.nx, .bool S.wt, .int .i64 S.rq.fr, .int .i64 S.rq.to_, .int .i64 S.rq.kd, .int .i64 S.rq.nm, .slice xa S.rq.body.length xk, .slice da S.dn.length dj, .int .i64 S.tr])] [.ms (.slice pfb a3.dn.length pfj) a3.dn, .bs (.slice pfa a3.rq.body.length pfk) a3.rq.body, .ms (.slice peb a3.dn.length pej) a3.dn, .bs (.slice pea a3.rq.body.length pek) a3.rq.body, .bs (.slice qda x2.body.length qdk) x2.body, .ms (.slice pdb a2.dn.length pdj) a2.dn, .bs (.slice pda a2.rq.body.length pdk) a2.rq.body, .bs (.slice qca x2.body.length qck) x2.body, .ms (.slice pcb a2.dn.length pcj) a2.dn, .bs (.slice pca a2.rq.body.length pck) a2.rq.body, .bs (.slice qba x1.body.length qbk) x1.body, .ms (.slice pbb a1.dn.length pbj) a1.dn, .bs (.slice pba a1.rq.body.length pbk) a1.rq.body, .bs (.slice qaa x1.body.length qak) x1.body, .ms (.slice pab a1.dn.length paj) a1.dn, .bs (.slice paa a1.rq.body.length pak) a1.rq.body, .bs (.slice ya M.body.length yk) M.body, .ms (.slice da S.dn.length dj) S.dn, .bs (.slice xa S.rq.body.length xk) S.rq.body] w17) := Lib.hid (E22.out.below hbr)
  clear E22 hbr
  (try dsimp only)
  clear hHeld
  refine hKK.out _ _ (Lib.hid E23.out) (fun hHeld => ?_)
  clear hKK KK
  try simp only [Act.put, List.setIfInBounds_toArray, List.set_cons_zero, List.set_cons_succ]
  refine takeW (i := 19) (some 90) (v := ?_) rfl rfl (by kernel_rfl) (by kernel_rfl) (by kernel_rfl) (fun _ _ _ h => h) (by rfl) (by assumption) ?_ ?_
  rotate_left
  · (intro wS hSw; skip; go_simp; try with_reducible rfl)
  try simp only [Act.put, List.setIfInBounds_toArray, List.set_cons_zero, List.set_cons_succ]
  refine takeW (i := 20) (some 91) (v := ?_) rfl rfl (by kernel_rfl) (by kernel_rfl) (by kernel_rfl) (fun _ _ _ h => h) (by rfl) (by assumption) ?_ ?_
  rotate_left
  · (intro wS hSw; skip; go_simp; try with_reducible rfl)
  try simp only [Act.put, List.setIfInBounds_toArray, List.set_cons_zero, List.set_cons_succ]
  refine takeW (i := 21) (some 92) (v := ?_) rfl rfl (by kernel_rfl) (by kernel_rfl) (by kernel_rfl) (fun _ _ _ h => h) (by rfl) (by assumption) ?_ ?_
  rotate_left
  · (intro wS hSw; skip; go_simp; try with_reducible rfl)
  try simp only [Act.put, List.setIfInBounds_toArray, List.set_cons_zero, List.set_cons_succ]
  refine takeW (i := 22) (some 93) (v := ?_) rfl rfl (by kernel_rfl) (by kernel_rfl) (by kernel_rfl) (fun _ _ _ h => h) (by rfl) (by assumption) ?_ ?_
  rotate_left
  · (intro wS hSw; skip; go_simp; try with_reducible rfl)
  try simp only [Act.put, List.setIfInBounds_toArray, List.set_cons_zero, List.set_cons_succ]
  refine takeW (i := 23) (some 94) (v := ?_) rfl rfl (by kernel_rfl) (by kernel_rfl) (by kernel_rfl) (fun _ _ _ h => h) (by rfl) (by assumption) ?_ ?_
  rotate_left
  · (intro wS hSw; skip; go_simp; try with_reducible rfl)
  try simp only [Act.put, List.setIfInBounds_toArray, List.set_cons_zero, List.set_cons_succ]
  refine takeW (i := 24) (some 95) (v := ?_) rfl rfl (by kernel_rfl) (by kernel_rfl) (by kernel_rfl) (fun _ _ _ h => h) (by rfl) (by assumption) ?_ ?_
  rotate_left
  · (intro wS hSw; skip; go_simp; try with_reducible rfl)
  try simp only [Act.put, List.setIfInBounds_toArray, List.set_cons_zero, List.set_cons_succ]
  refine takeW (i := 25) (some 96) (v := ?_) rfl rfl (by kernel_rfl) (by kernel_rfl) (by kernel_rfl) (fun _ _ _ h => h) (by rfl) (by assumption) ?_ ?_
  rotate_left
  · (intro wS hSw; skip; go_simp; try with_reducible rfl)
  try simp only [Act.put, List.setIfInBounds_toArray, List.set_cons_zero, List.set_cons_succ]
  refine takeW (i := 26) (some 97) (v := ?_) rfl rfl (by kernel_rfl) (by kernel_rfl) (by kernel_rfl) (fun _ _ _ h => h) (by rfl) (by assumption) ?_ ?_
  rotate_left
  · (intro wS hSw; have bq := hSw.out.bx 5 rfl; have q0 := bq.cell 0 rfl; have q1 := bq.cell 1 rfl; have q2 := bq.cell 2 rfl; have q3 := bq.cell 3 rfl; have q4 := bq.cell 4 rfl; have q5 := bq.cell 5 rfl; have q6 := bq.cell 6 rfl; have q7 := bq.cell 7 rfl; have q8 := bq.cell 8 rfl; clear bq hSw; go_simp; try with_reducible rfl)
  try simp only [Act.put, List.setIfInBounds_toArray, List.set_cons_zero, List.set_cons_succ]
  refine takeW (i := 27) (some 98) (v := ?_) rfl rfl (by kernel_rfl) (by kernel_rfl) (by kernel_rfl) (fun _ _ _ h => h) (by rfl) (by assumption) ?_ ?_
  rotate_left
  · (intro wS hSw; have bq := hSw.out.bx 3 rfl; have q0 := bq.cell 0 rfl; have q1 := bq.cell 1 rfl; have q2 := bq.cell 2 rfl; have q3 := bq.cell 3 rfl; have q4 := bq.cell 4 rfl; have q5 := bq.cell 5 rfl; have q6 := bq.cell 6 rfl; have q7 := bq.cell 7 rfl; have q8 := bq.cell 8 rfl; clear bq hSw; go_simp; try with_reducible rfl)
  try simp only [Act.put, List.setIfInBounds_toArray, List.set_cons_zero, List.set_cons_succ]
  refine wpAnyH_ready (rs := [28]) (by kernel_rfl) (by simp) ?_
  refine AllReadyH.cons rfl (fun KK hKK => ?_) AllReadyH.nil
  go_simp
  refine (rSess_t a2 f2.out.1 (E23.out.fc 9 rfl) (E23.out.fc 8 rfl) (E23.out.fc 6 rfl) (E23.out.fc 5 rfl)).mono ?_
  rintro e w18 ⟨rfl, hbr⟩
  have E24 : Hid (Env D w [(w9.heap.size, 27, [.int .i64 a3.nx, .bool a3.wt, .int .i64 a3.rq.fr, .int .i64 a3.rq.to_, .int .i64 a3.rq.kd, .int .i64 a3.rq.nm, .slice pfa a3.rq.body.length pfk, .slice pfb a3.dn.length pfj, .int .i64 a3.tr]), (w8.heap.size, 27, [.int .i64 a3.nx, .bool a3.wt, .int .i64 a3.rq.fr, .int .i64 a3.rq.to_, .int .i64 a3.rq.kd, .int .i64 a3.rq.nm, .slice pea a3.rq.body.length pek, .slice peb a3.dn.length pej, .int .i64 a3.tr]), (w7.heap.size + 1, 24, [.int .i64 x2.fr, .int .i64 x2.to_, .int .i64 x2.kd, .int .i64 x2.nm, .slice qda x2.body.length qdk]), (w7.heap.size, 27, [.int .i64 a2.nx, .bool a2.wt, .int .i64 a2.rq.fr, .int .i64 a2.rq.to_, .int .i64 a2.rq.kd, .int .i64 a2.rq.nm, .slice pda a2.rq.body.length pdk, .slice pdb a2.dn.length pdj, .int .i64 a2.tr]), (w6.heap.size + 1, 24, [.int .i64 x2.fr, .int .i64 x2.to_, .int .i64 x2.kd, .int .i64 x2.nm, .slice qca x2.body.length qck]), (w6.heap.size, 27, [.int .i64 a2.nx, .bool a2.wt, .int .i64 a2.rq.fr, .int .i64 a2.rq.to_, .int .i64 a2.rq.kd, .int .i64 a2.rq.nm, .slice pca a2.rq.body.length pck, .slice pcb a2.dn.length pcj, .int .i64 a2.tr]), (w5.heap.size + 1, 24, [.int .i64 x1.fr, .int .i64 x1.to_, .int .i64 x1.kd, .int .i64 x1.nm, .slice qba x1.body.length qbk]), (w5.heap.size, 27, [.int .i64 a1.nx, .bool a1.wt, .int .i64 a1.rq.fr, .int .i64 a1.rq.to_, .int .i64 a1.rq.kd, .int .i64 a1.rq.nm, .slice pba a1.rq.body.length pbk, .slice pbb a1.dn.length pbj, .int .i64 a1.tr]), (w4.heap.size + 1, 24, [.int .i64 x1.fr, .int .i64 x1.to_, .int .i64 x1.kd, .int .i64 x1.nm, .slice qaa x1.body.length qak]), (w4.heap.size, 27, [.int .i64 a1.nx, .bool a1.wt, .int .i64 a1.rq.fr, .int .i64 a1.rq.to_, .int .i64 a1.rq.kd, .int .i64 a1.rq.nm, .slice paa a1.rq.body.length pak, .slice pab a1.dn.length paj, .int .i64 a1.tr]), (w.heap.size + 1, 24, [.int .i64 M.fr, .int .i64 M.to_, .int .i64 M.kd, .int .i64 M.nm, .slice ya M.body.length yk]), (w.heap.size, 27, [.int .i64 S.nx, .bool S.wt, .int .i64 S.rq.fr, .int .i64 S.rq.to_, .int .i64 S.rq.kd, .int .i64 S.rq.nm, .slice xa S.rq.body.length xk, .slice da S.dn.length dj, .int .i64 S.tr])] [.ms (.slice pfb a3.dn.length pfj) a3.dn, .bs (.slice pfa a3.rq.body.length pfk) a3.rq.body, .ms (.slice peb a3.dn.length pej) a3.dn, .bs (.slice pea a3.rq.body.length pek) a3.rq.body, .bs (.slice qda x2.body.length qdk) x2.body, .ms (.slice pdb a2.dn.length pdj) a2.dn, .bs (.slice pda a2.rq.body.length pdk) a2.rq.body, .bs (.slice qca x2.body.length qck) x2.body, .ms (.slice pcb a2.dn.length pcj) a2.dn, .bs (.slice pca a2.rq.body.length pck) a2.rq.body, .bs (.slice qba x1.body.length qbk) x1.body, .ms (.slice pbb a1.dn.length pbj) a1.dn, .bs (.slice pba a1.rq.body.length pbk) a1.rq.body, .bs (.slice qaa x1.body.length qak) x1.body, .ms (.slice pab a1.dn.length paj) a1.dn, .bs (.slice paa a1.rq.body.length pak) a1.rq.body, .bs (.slice ya M.body.length yk) M.body, .ms (.slice da S.dn.length dj) S.dn, .bs (.slice xa S.rq.body.length xk) S.rq.body] w18) := Lib.hid (E23.out.below hbr)
  clear E23 hbr
  (try dsimp only)
  clear hHeld
  refine hKK.out _ _ (Lib.hid E24.out) (fun hHeld => ?_)
  clear hKK KK
  try simp only [Act.put, List.setIfInBounds_toArray, List.set_cons_zero, List.set_cons_succ]
  refine takeW (i := 29) (some 100) (v := ?_) rfl rfl (by kernel_rfl) (by kernel_rfl) (by kernel_rfl) (fun _ _ _ h => h) (by rfl) (by assumption) ?_ ?_
  rotate_left
  · (intro wS hSw; skip; go_simp; try with_reducible rfl)
  try simp only [Act.put, List.setIfInBounds_toArray, List.set_cons_zero, List.set_cons_succ]
  refine takeW (i := 30) (some 101) (v := ?_) rfl rfl (by kernel_rfl) (by kernel_rfl) (by kernel_rfl) (fun _ _ _ h => h) (by rfl) (by assumption) ?_ ?_
  rotate_left
  · (intro wS hSw; skip; go_simp; try with_reducible rfl)
  try simp only [Act.put, List.setIfInBounds_toArray, List.set_cons_zero, List.set_cons_succ]
  refine takeW (i := 31) (some 102) (v := ?_) rfl rfl (by kernel_rfl) (by kernel_rfl) (by kernel_rfl) (fun _ _ _ h => h) (by rfl) (by assumption) ?_ ?_
  rotate_left
  · (intro wS hSw; have bq := hSw.out.bx 4 rfl; have q0 := bq.cell 0 rfl; have q1 := bq.cell 1 rfl; have q2 := bq.cell 2 rfl; have q3 := bq.cell 3 rfl; have q4 := bq.cell 4 rfl; clear bq hSw; go_simp; try with_reducible rfl)
  try simp only [Act.put, List.setIfInBounds_toArray, List.set_cons_zero, List.set_cons_succ]
  refine takeW (i := 32) (some 103) (v := ?_) rfl rfl (by kernel_rfl) (by kernel_rfl) (by kernel_rfl) (fun _ _ _ h => h) (by rfl) (by assumption) ?_ ?_
  rotate_left
  · (intro wS hSw; have bq := hSw.out.bx 2 rfl; have q0 := bq.cell 0 rfl; have q1 := bq.cell 1 rfl; have q2 := bq.cell 2 rfl; have q3 := bq.cell 3 rfl; have q4 := bq.cell 4 rfl; clear bq hSw; go_simp; try with_reducible rfl)
  try simp only [Act.put, List.setIfInBounds_toArray, List.set_cons_zero, List.set_cons_succ]
  refine wpAnyH_ready (rs := [33]) (by kernel_rfl) (by simp) ?_
  refine AllReadyH.cons rfl (fun KK hKK => ?_) AllReadyH.nil
  go_simp
  refine (rSame_t x2 f2.out.2 (E24.out.fc 7 rfl) (E24.out.fc 4 rfl)).mono ?_
  rintro e w19 ⟨rfl, hbr⟩
  have E25 : Hid (Env D w [(w9.heap.size, 27, [.int .i64 a3.nx, .bool a3.wt, .int .i64 a3.rq.fr, .int .i64 a3.rq.to_, .int .i64 a3.rq.kd, .int .i64 a3.rq.nm, .slice pfa a3.rq.body.length pfk, .slice pfb a3.dn.length pfj, .int .i64 a3.tr]), (w8.heap.size, 27, [.int .i64 a3.nx, .bool a3.wt, .int .i64 a3.rq.fr, .int .i64 a3.rq.to_, .int .i64 a3.rq.kd, .int .i64 a3.rq.nm, .slice pea a3.rq.body.length pek, .slice peb a3.dn.length pej, .int .i64 a3.tr]), (w7.heap.size + 1, 24, [.int .i64 x2.fr, .int .i64 x2.to_, .int .i64 x2.kd, .int .i64 x2.nm, .slice qda x2.body.length qdk]), (w7.heap.size, 27, [.int .i64 a2.nx, .bool a2.wt, .int .i64 a2.rq.fr, .int .i64 a2.rq.to_, .int .i64 a2.rq.kd, .int .i64 a2.rq.nm, .slice pda a2.rq.body.length pdk, .slice pdb a2.dn.length pdj, .int .i64 a2.tr]), (w6.heap.size + 1, 24, [.int .i64 x2.fr, .int .i64 x2.to_, .int .i64 x2.kd, .int .i64 x2.nm, .slice qca x2.body.length qck]), (w6.heap.size, 27, [.int .i64 a2.nx, .bool a2.wt, .int .i64 a2.rq.fr, .int .i64 a2.rq.to_, .int .i64 a2.rq.kd, .int .i64 a2.rq.nm, .slice pca a2.rq.body.length pck, .slice pcb a2.dn.length pcj, .int .i64 a2.tr]), (w5.heap.size + 1, 24, [.int .i64 x1.fr, .int .i64 x1.to_, .int .i64 x1.kd, .int .i64 x1.nm, .slice qba x1.body.length qbk]), (w5.heap.size, 27, [.int .i64 a1.nx, .bool a1.wt, .int .i64 a1.rq.fr, .int .i64 a1.rq.to_, .int .i64 a1.rq.kd, .int .i64 a1.rq.nm, .slice pba a1.rq.body.length pbk, .slice pbb a1.dn.length pbj, .int .i64 a1.tr]), (w4.heap.size + 1, 24, [.int .i64 x1.fr, .int .i64 x1.to_, .int .i64 x1.kd, .int .i64 x1.nm, .slice qaa x1.body.length qak]), (w4.heap.size, 27, [.int .i64 a1.nx, .bool a1.wt, .int .i64 a1.rq.fr, .int .i64 a1.rq.to_, .int .i64 a1.rq.kd, .int .i64 a1.rq.nm, .slice paa a1.rq.body.length pak, .slice pab a1.dn.length paj, .int .i64 a1.tr]), (w.heap.size + 1, 24, [.int .i64 M.fr, .int .i64 M.to_, .int .i64 M.kd, .int .i64 M.nm, .slice ya M.body.length yk]), (w.heap.size, 27, [.int .i64 S.nx, .bool S.wt, .int .i64 S.rq.fr, .int .i64 S.rq.to_, .int .i64 S.rq.kd, .int .i64 S.rq.nm, .slice xa S.rq.body.length xk, .slice da S.dn.length dj, .int .i64 S.tr])] [.ms (.slice pfb a3.dn.length pfj) a3.dn, .bs (.slice pfa a3.rq.body.length pfk) a3.rq.body, .ms (.slice peb a3.dn.length pej) a3.dn, .bs (.slice pea a3.rq.body.length pek) a3.rq.body, .bs (.slice qda x2.body.length qdk) x2.body, .ms (.slice pdb a2.dn.length pdj) a2.dn, .bs (.slice pda a2.rq.body.length pdk) a2.rq.body, .bs (.slice qca x2.body.length qck) x2.body, .ms (.slice pcb a2.dn.length pcj) a2.dn, .bs (.slice pca a2.rq.body.length pck) a2.rq.body, .bs (.slice qba x1.body.length qbk) x1.body, .ms (.slice pbb a1.dn.length pbj) a1.dn, .bs (.slice pba a1.rq.body.length pbk) a1.rq.body, .bs (.slice qaa x1.body.length qak) x1.body, .ms (.slice pab a1.dn.length paj) a1.dn, .bs (.slice paa a1.rq.body.length pak) a1.rq.body, .bs (.slice ya M.body.length yk) M.body, .ms (.slice da S.dn.length dj) S.dn, .bs (.slice xa S.rq.body.length xk) S.rq.body] w19) := Lib.hid (E24.out.below hbr)
  clear E24 hbr
  (try dsimp only)
  clear hHeld
  refine hKK.out _ _ (Lib.hid E25.out) (fun hHeld => ?_)
  clear hKK KK
  try simp only [Act.put, List.setIfInBounds_toArray, List.set_cons_zero, List.set_cons_succ]
  refine takeW (i := 34) (some 105) (v := ?_) rfl rfl (by kernel_rfl) (by kernel_rfl) (by kernel_rfl) (fun _ _ _ h => h) (by rfl) (by assumption) ?_ ?_
  rotate_left
  · (intro wS hSw; skip; go_simp; try with_reducible rfl)
  try simp only [Act.put, List.setIfInBounds_toArray, List.set_cons_zero, List.set_cons_succ]
  refine takeW (i := 35) (some 106) (v := ?_) rfl rfl (by kernel_rfl) (by kernel_rfl) (by kernel_rfl) (fun _ _ _ h => h) (by rfl) (by assumption) ?_ ?_
  rotate_left
  · (intro wS hSw; skip; go_simp; try with_reducible rfl)
  try simp only [Act.put, List.setIfInBounds_toArray, List.set_cons_zero, List.set_cons_succ]
  refine takeW (i := 36) (some 107) (v := ?_) rfl rfl (by kernel_rfl) (by kernel_rfl) (by kernel_rfl) (fun _ _ _ h => h) (by rfl) (by assumption) ?_ ?_
  rotate_left
  · (intro wS hSw; skip; go_simp; try with_reducible rfl)
  try simp only [Act.put, List.setIfInBounds_toArray, List.set_cons_zero, List.set_cons_succ]
  refine takeW (i := 37) (some 108) (v := ?_) rfl rfl (by kernel_rfl) (by kernel_rfl) (by kernel_rfl) (fun _ _ _ h => h) (by rfl) (by assumption) ?_ ?_
  rotate_left
  · (intro wS hSw; skip; go_simp; try with_reducible rfl)
  try simp only [Act.put, List.setIfInBounds_toArray, List.set_cons_zero, List.set_cons_succ]
  refine takeW (i := 38) (some 109) (v := ?_) rfl rfl (by kernel_rfl) (by kernel_rfl) (by kernel_rfl) (fun _ _ _ h => h) (by rfl) (by assumption) ?_ ?_
  rotate_left
  · (intro wS hSw; skip; go_simp; try with_reducible rfl)
  try simp only [Act.put, List.setIfInBounds_toArray, List.set_cons_zero, List.set_cons_succ]
  refine takeW (i := 39) (some 110) (v := ?_) rfl rfl (by kernel_rfl) (by kernel_rfl) (by kernel_rfl) (fun _ _ _ h => h) (by rfl) (by assumption) ?_ ?_
  rotate_left
  · (intro wS hSw; skip; go_simp; try with_reducible rfl)
  try simp only [Act.put, List.setIfInBounds_toArray, List.set_cons_zero, List.set_cons_succ]
  refine takeW (i := 40) (some 111) (v := ?_) rfl rfl (by kernel_rfl) (by kernel_rfl) (by kernel_rfl) (fun _ _ _ h => h) (by rfl) (by assumption) ?_ ?_
  rotate_left
  · (intro wS hSw; skip; go_simp; try with_reducible rfl)
  try simp only [Act.put, List.setIfInBounds_toArray, List.set_cons_zero, List.set_cons_succ]
  refine takeW (i := 41) (some 112) (v := ?_) rfl rfl (by kernel_rfl) (by kernel_rfl) (by kernel_rfl) (fun _ _ _ h => h) (by rfl) (by assumption) ?_ ?_
  rotate_left
  · (intro wS hSw; have bq := hSw.out.bx 1 rfl; have q0 := bq.cell 0 rfl; have q1 := bq.cell 1 rfl; have q2 := bq.cell 2 rfl; have q3 := bq.cell 3 rfl; have q4 := bq.cell 4 rfl; have q5 := bq.cell 5 rfl; have q6 := bq.cell 6 rfl; have q7 := bq.cell 7 rfl; have q8 := bq.cell 8 rfl; clear bq hSw; go_simp; try with_reducible rfl)
  try simp only [Act.put, List.setIfInBounds_toArray, List.set_cons_zero, List.set_cons_succ]
  refine takeW (i := 42) (some 113) (v := ?_) rfl rfl (by kernel_rfl) (by kernel_rfl) (by kernel_rfl) (fun _ _ _ h => h) (by rfl) (by assumption) ?_ ?_
  rotate_left
  · (intro wS hSw; have bq := hSw.out.bx 0 rfl; have q0 := bq.cell 0 rfl; have q1 := bq.cell 1 rfl; have q2 := bq.cell 2 rfl; have q3 := bq.cell 3 rfl; have q4 := bq.cell 4 rfl; have q5 := bq.cell 5 rfl; have q6 := bq.cell 6 rfl; have q7 := bq.cell 7 rfl; have q8 := bq.cell 8 rfl; clear bq hSw; go_simp; try with_reducible rfl)
  try simp only [Act.put, List.setIfInBounds_toArray, List.set_cons_zero, List.set_cons_succ]
  refine wpAnyH_ready (rs := [43]) (by kernel_rfl) (by simp) ?_
  refine AllReadyH.cons rfl (fun KK hKK => ?_) AllReadyH.nil
  go_simp
  refine (rSess_t a3 f3.out (E25.out.fc 3 rfl) (E25.out.fc 2 rfl) (E25.out.fc 1 rfl) (E25.out.fc 0 rfl)).mono ?_
  rintro e w20 ⟨rfl, hbr⟩
  have E26 : Hid (Env D w [(w9.heap.size, 27, [.int .i64 a3.nx, .bool a3.wt, .int .i64 a3.rq.fr, .int .i64 a3.rq.to_, .int .i64 a3.rq.kd, .int .i64 a3.rq.nm, .slice pfa a3.rq.body.length pfk, .slice pfb a3.dn.length pfj, .int .i64 a3.tr]), (w8.heap.size, 27, [.int .i64 a3.nx, .bool a3.wt, .int .i64 a3.rq.fr, .int .i64 a3.rq.to_, .int .i64 a3.rq.kd, .int .i64 a3.rq.nm, .slice pea a3.rq.body.length pek, .slice peb a3.dn.length pej, .int .i64 a3.tr]), (w7.heap.size + 1, 24, [.int .i64 x2.fr, .int .i64 x2.to_, .int .i64 x2.kd, .int .i64 x2.nm, .slice qda x2.body.length qdk]), (w7.heap.size, 27, [.int .i64 a2.nx, .bool a2.wt, .int .i64 a2.rq.fr, .int .i64 a2.rq.to_, .int .i64 a2.rq.kd, .int .i64 a2.rq.nm, .slice pda a2.rq.body.length pdk, .slice pdb a2.dn.length pdj, .int .i64 a2.tr]), (w6.heap.size + 1, 24, [.int .i64 x2.fr, .int .i64 x2.to_, .int .i64 x2.kd, .int .i64 x2.nm, .slice qca x2.body.length qck]), (w6.heap.size, 27, [.int .i64 a2.nx, .bool a2.wt, .int .i64 a2.rq.fr, .int .i64 a2.rq.to_, .int .i64 a2.rq.kd, .int .i64 a2.rq.nm, .slice pca a2.rq.body.length pck, .slice pcb a2.dn.length pcj, .int .i64 a2.tr]), (w5.heap.size + 1, 24, [.int .i64 x1.fr, .int .i64 x1.to_, .int .i64 x1.kd, .int .i64 x1.nm, .slice qba x1.body.length qbk]), (w5.heap.size, 27, [.int .i64 a1.nx, .bool a1.wt, .int .i64 a1.rq.fr, .int .i64 a1.rq.to_, .int .i64 a1.rq.kd, .int .i64 a1.rq.nm, .slice pba a1.rq.body.length pbk, .slice pbb a1.dn.length pbj, .int .i64 a1.tr]), (w4.heap.size + 1, 24, [.int .i64 x1.fr, .int .i64 x1.to_, .int .i64 x1.kd, .int .i64 x1.nm, .slice qaa x1.body.length qak]), (w4.heap.size, 27, [.int .i64 a1.nx, .bool a1.wt, .int .i64 a1.rq.fr, .int .i64 a1.rq.to_, .int .i64 a1.rq.kd, .int .i64 a1.rq.nm, .slice paa a1.rq.body.length pak, .slice pab a1.dn.length paj, .int .i64 a1.tr]), (w.heap.size + 1, 24, [.int .i64 M.fr, .int .i64 M.to_, .int .i64 M.kd, .int .i64 M.nm, .slice ya M.body.length yk]), (w.heap.size, 27, [.int .i64 S.nx, .bool S.wt, .int .i64 S.rq.fr, .int .i64 S.rq.to_, .int .i64 S.rq.kd, .int .i64 S.rq.nm, .slice xa S.rq.body.length xk, .slice da S.dn.length dj, .int .i64 S.tr])] [.ms (.slice pfb a3.dn.length pfj) a3.dn, .bs (.slice pfa a3.rq.body.length pfk) a3.rq.body, .ms (.slice peb a3.dn.length pej) a3.dn, .bs (.slice pea a3.rq.body.length pek) a3.rq.body, .bs (.slice qda x2.body.length qdk) x2.body, .ms (.slice pdb a2.dn.length pdj) a2.dn, .bs (.slice pda a2.rq.body.length pdk) a2.rq.body, .bs (.slice qca x2.body.length qck) x2.body, .ms (.slice pcb a2.dn.length pcj) a2.dn, .bs (.slice pca a2.rq.body.length pck) a2.rq.body, .bs (.slice qba x1.body.length qbk) x1.body, .ms (.slice pbb a1.dn.length pbj) a1.dn, .bs (.slice pba a1.rq.body.length pbk) a1.rq.body, .bs (.slice qaa x1.body.length qak) x1.body, .ms (.slice pab a1.dn.length paj) a1.dn, .bs (.slice paa a1.rq.body.length pak) a1.rq.body, .bs (.slice ya M.body.length yk) M.body, .ms (.slice da S.dn.length dj) S.dn, .bs (.slice xa S.rq.body.length xk) S.rq.body] w20) := Lib.hid (E25.out.below hbr)
  clear E25 hbr
  (try dsimp only)
  clear hHeld
  refine hKK.out _ _ (Lib.hid E26.out) (fun hHeld => ?_)
  clear hKK KK
  try simp only [Act.put, List.setIfInBounds_toArray, List.set_cons_zero, List.set_cons_succ]
  refine takeW (i := 44) (some 115) (v := ?_) rfl rfl (by kernel_rfl) (by kernel_rfl) (by kernel_rfl) (fun _ _ _ h => h) (by rfl) (by assumption) ?_ ?_
  rotate_left
  · (intro wS hSw; skip; go_simp; try with_reducible rfl)
  try simp only [Act.put, List.setIfInBounds_toArray, List.set_cons_zero, List.set_cons_succ]
  refine takeW (i := 45) (some 116) (v := ?_) rfl rfl (by kernel_rfl) (by kernel_rfl) (by kernel_rfl) (fun _ _ _ h => h) (by rfl) (by assumption) ?_ ?_
  rotate_left
  · (intro wS hSw; skip; go_simp; try with_reducible rfl)
  try simp only [Act.put, List.setIfInBounds_toArray, List.set_cons_zero, List.set_cons_succ]
  refine takeW (i := 46) (some 117) (v := ?_) rfl rfl (by kernel_rfl) (by kernel_rfl) (by kernel_rfl) (fun _ _ _ h => h) (by rfl) (by assumption) ?_ ?_
  rotate_left
  · (intro wS hSw; skip; go_simp; try with_reducible rfl)
  try simp only [Act.put, List.setIfInBounds_toArray, List.set_cons_zero, List.set_cons_succ]
  refine takeW (i := 47) (some 118) (v := ?_) rfl rfl (by kernel_rfl) (by kernel_rfl) (by kernel_rfl) (fun _ _ _ h => h) (by rfl) (by assumption) ?_ ?_
  rotate_left
  · (intro wS hSw; skip; go_simp; try with_reducible rfl)
  try simp only [Act.put, List.setIfInBounds_toArray, List.set_cons_zero, List.set_cons_succ]
  refine takeW (i := 48) (some 119) (v := ?_) rfl rfl (by kernel_rfl) (by kernel_rfl) (by kernel_rfl) (fun _ _ _ h => h) (by rfl) (by assumption) ?_ ?_
  rotate_left
  · (intro wS hSw; skip; go_simp; try with_reducible rfl)
  try simp only [Act.put, List.setIfInBounds_toArray, List.set_cons_zero, List.set_cons_succ]
  refine takeW (i := 49) (some 120) (v := ?_) rfl rfl (by kernel_rfl) (by kernel_rfl) (by kernel_rfl) (fun _ _ _ h => h) (by rfl) (by assumption) ?_ ?_
  rotate_left
  · (intro wS hSw; skip; go_simp; try with_reducible rfl)
  try simp only [Act.put, List.setIfInBounds_toArray, List.set_cons_zero, List.set_cons_succ]
  refine takeW (i := 50) (some 121) (v := ?_) rfl rfl (by kernel_rfl) (by kernel_rfl) (by kernel_rfl) (fun _ _ _ h => h) (by rfl) (by assumption) ?_ ?_
  rotate_left
  · (intro wS hSw; skip; go_simp; try with_reducible rfl)
  try simp only [Act.put, List.setIfInBounds_toArray, List.set_cons_zero, List.set_cons_succ]
  refine takeW (i := 51) (some 122) (v := ?_) rfl rfl (by kernel_rfl) (by kernel_rfl) (by kernel_rfl) (fun _ _ _ h => h) (by rfl) (by assumption) ?_ ?_
  rotate_left
  · (intro wS hSw; skip; go_simp; try with_reducible rfl)
  try simp only [Act.put, List.setIfInBounds_toArray, List.set_cons_zero, List.set_cons_succ]
  refine takeW (i := 52) (some 123) (v := ?_) rfl rfl (by kernel_rfl) (by kernel_rfl) (by kernel_rfl) (fun _ _ _ h => h) (by rfl) (by assumption) ?_ ?_
  rotate_left
  · (intro wS hSw; skip; go_simp; try with_reducible rfl)
  try simp only [Act.put, List.setIfInBounds_toArray, List.set_cons_zero, List.set_cons_succ]
  refine takeW (i := 53) (some 124) (v := ?_) rfl rfl (by kernel_rfl) (by kernel_rfl) (by kernel_rfl) (fun _ _ _ h => h) (by rfl) (by assumption) ?_ ?_
  rotate_left
  · (intro wS hSw; skip; go_simp; try with_reducible rfl)
  try simp only [Act.put, List.setIfInBounds_toArray, List.set_cons_zero, List.set_cons_succ]
  refine takeW (i := 54) (some 125) (v := ?_) rfl rfl (by kernel_rfl) (by kernel_rfl) (by kernel_rfl) (fun _ _ _ h => h) (by rfl) (by assumption) ?_ ?_
  rotate_left
  · (intro wS hSw; skip; go_simp; try with_reducible rfl)
  try simp only [Act.put, List.setIfInBounds_toArray, List.set_cons_zero, List.set_cons_succ]
  refine takeW (i := 55) (some 4) (v := ?_) rfl rfl (by kernel_rfl) (by kernel_rfl) (by kernel_rfl) (fun _ _ _ h => h) (by rfl) (by assumption) ?_ ?_
  rotate_left
  · (intro wS hSw; skip; go_simp; try with_reducible rfl)
  try simp only [Act.put, List.setIfInBounds_toArray, List.set_cons_zero, List.set_cons_succ]
  refine wpAnyH_done (by kernel_rfl) ?_ _
  have hfin := Lib.hid E26.out.bel
  go_wp2
  go_ret
  exact ⟨rfl, hfin.out⟩
theorem SessionAsks_walk (S : Ses) (M : Msg) {D : Nat → Prop} {xa da ya : Option Addr} {xk dj yk : Nat} {w : World} (hx : Fct.at w D (.bs (.slice xa S.rq.body.length xk) S.rq.body)) (hy : Fct.at w D (.ms (.slice da S.dn.length dj) S.dn)) (hz : Fct.at w D (.bs (.slice ya M.body.length yk) M.body)) :
    Calls Try.prog 5 #[.agg #[.int .i64 S.nx, .bool S.wt, .int .i64 S.rq.fr, .int .i64 S.rq.to_, .int .i64 S.rq.kd, .int .i64 S.rq.nm, .slice xa S.rq.body.length xk, .slice da S.dn.length dj, .int .i64 S.tr], .agg #[.int .i64 M.fr, .int .i64 M.to_, .int .i64 M.kd, .int .i64 M.nm, .slice ya M.body.length yk]] w fun e w' => e = .returned (.bool true) ∧ Below w.heap.size w w' := by
  by_cases hg : Small S
  case neg => exact asks_great S M hx hy hz hg
  cases hl : decide (20000 < M.body.length)
  case true => exact asks_long S M hx hy hz hg hl
  obtain ⟨t1, cv, cw⟩ := valid_both S
  obtain ⟨a1, x1, k1, c1, c2, f1⟩ := ask_both S M
  obtain ⟨a2, x2, k2, c3, c4, f2⟩ := again_both S
  obtain ⟨a3, t3, k3, c5, c6, f3⟩ := accept_both S M
  exact asks_main S M t1 t3 a1 a2 a3 x1 x2 k1 k2 k3 hx hy hz hg hl cv cw c1 c2 f1 c3 c4 f2 c5 c6 f3
end Go.Proofs.Ytbcfcdcomboljaa

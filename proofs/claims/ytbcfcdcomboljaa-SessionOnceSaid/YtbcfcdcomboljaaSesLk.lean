/- Ask, Again, Accept of the program, by their results. -/
import Derived.Test.YtbcfcdcomboljaaSesZp
namespace Go.Proofs.Ytbcfcdcomboljaa
open Go.RowKit
set_option linter.unusedVariables false
def AskL (S : Ses) (M : Msg) (a : Ses) (x : Msg) (c : Int) : Prop := ∀ (D : Nat → Prop) (xa da ya : Option Addr) (xk dj yk : Nat) (w : World), Fct.at w D (.bs (.slice xa S.rq.body.length xk) S.rq.body) → Fct.at w D (.ms (.slice da S.dn.length dj) S.dn) → Fct.at w D (.bs (.slice ya M.body.length yk) M.body) → Calls Try.prog 24 #[.agg #[.int .i64 S.nx, .bool S.wt, .int .i64 S.rq.fr, .int .i64 S.rq.to_, .int .i64 S.rq.kd, .int .i64 S.rq.nm, .slice xa S.rq.body.length xk, .slice da S.dn.length dj, .int .i64 S.tr], .agg #[.int .i64 M.fr, .int .i64 M.to_, .int .i64 M.kd, .int .i64 M.nm, .slice ya M.body.length yk]] w fun e w' => RetSM (fun b => D b ∨ w.heap.size ≤ b) a x c e w' ∧ Below w.heap.size w w'
def AgL (S : Ses) (a : Ses) (x : Msg) (c : Int) : Prop := ∀ (D : Nat → Prop) (xa da : Option Addr) (xk dj : Nat) (w : World), Fct.at w D (.bs (.slice xa S.rq.body.length xk) S.rq.body) → Fct.at w D (.ms (.slice da S.dn.length dj) S.dn) → Calls Try.prog 26 #[.agg #[.int .i64 S.nx, .bool S.wt, .int .i64 S.rq.fr, .int .i64 S.rq.to_, .int .i64 S.rq.kd, .int .i64 S.rq.nm, .slice xa S.rq.body.length xk, .slice da S.dn.length dj, .int .i64 S.tr]] w fun e w' => RetSM (fun b => D b ∨ w.heap.size ≤ b) a x c e w' ∧ Below w.heap.size w w'
def AccL (S : Ses) (M : Msg) (a : Ses) (t : Bool) (c : Int) : Prop := ∀ (D : Nat → Prop) (xa da ya : Option Addr) (xk dj yk : Nat) (w : World), Fct.at w D (.bs (.slice xa S.rq.body.length xk) S.rq.body) → Fct.at w D (.ms (.slice da S.dn.length dj) S.dn) → Fct.at w D (.bs (.slice ya M.body.length yk) M.body) → Calls Try.prog 28 #[.agg #[.int .i64 S.nx, .bool S.wt, .int .i64 S.rq.fr, .int .i64 S.rq.to_, .int .i64 S.rq.kd, .int .i64 S.rq.nm, .slice xa S.rq.body.length xk, .slice da S.dn.length dj, .int .i64 S.tr], .agg #[.int .i64 M.fr, .int .i64 M.to_, .int .i64 M.kd, .int .i64 M.nm, .slice ya M.body.length yk]] w fun e w' => RetSB (fun b => D b ∨ w.heap.size ≤ b) a t c e w' ∧ Below w.heap.size w w'
theorem again_l {S : Ses} (h : SesOk S) (hw : S.wt = true) (ht : S.tr ≠ 100) : AgL S ⟨S.nx, true, S.rq, S.dn, S.tr + 1⟩ S.rq 0 := by
  obtain ⟨nx, wt, ⟨fr, to_, kd, nm, body⟩, dn, tr⟩ := S
  obtain rfl : wt = true := hw
  exact fun D xa da xk dj w hx hy => Again_0 nx fr to_ kd nm tr body dn hx hy h ht
theorem again_5 {S : Ses} (h : SesOk S) (hw : S.wt = true) (ht : S.tr = 100) : AgL S ⟨0, false, ⟨0, 0, 0, 0, []⟩, [], 0⟩ ⟨0, 0, 0, 0, []⟩ 5 := by
  obtain ⟨nx, wt, ⟨fr, to_, kd, nm, body⟩, dn, tr⟩ := S
  obtain rfl : wt = true := hw
  obtain rfl : tr = 100 := ht
  exact fun D xa da xk dj w hx hy => Again_5 nx fr to_ kd nm body dn hx hy h
theorem ask_l {S : Ses} {M : Msg} (h : SesOk S) (hw : S.wt = false) (hm : msgOk M = true) (hn : S.nx ≠ 1073741824) : AskL S M ⟨S.nx + 1, true, ⟨M.fr, M.to_, M.kd, S.nx, M.body⟩, S.dn, 1⟩ ⟨M.fr, M.to_, M.kd, S.nx, M.body⟩ 0 := by
  obtain ⟨nx, wt, ⟨fr, to_, kd, nm, body⟩, dn, tr⟩ := S
  obtain ⟨fr2, to2, kd2, nm2, body2⟩ := M
  obtain rfl : wt = false := hw
  exact fun D xa da ya xk dj yk w hx hy hz => Ask_0 nx fr to_ kd nm tr body dn fr2 to2 kd2 nm2 body2 hx hy hz h hm hn
theorem accept_n {S : Ses} {M : Msg} (h : SesOk S) (hm : msgOk M = true) (hw : S.wt = false) : AccL S M S false 0 := by
  obtain ⟨nx, wt, ⟨fr, to_, kd, nm, body⟩, dn, tr⟩ := S
  obtain ⟨fr2, to2, kd2, nm2, body2⟩ := M
  obtain rfl : wt = false := hw
  exact fun D xa da ya xk dj yk w hx hy hz => Accept_n nx fr to_ kd nm tr body dn fr2 to2 kd2 nm2 body2 hx hy hz h hm
theorem accept_f {S : Ses} {M : Msg} (h : SesOk S) (hm : msgOk M = true) (hw : S.wt = true) (hb : blg M S.rq = false) : AccL S M S false 0 := by
  obtain ⟨nx, wt, ⟨fr, to_, kd, nm, body⟩, dn, tr⟩ := S
  obtain ⟨fr2, to2, kd2, nm2, body2⟩ := M
  obtain rfl : wt = true := hw
  exact fun D xa da ya xk dj yk w hx hy hz => Accept_f nx fr to_ kd nm tr body dn fr2 to2 kd2 nm2 body2 hx hy hz h hm hb
theorem accept_t {S : Ses} {M : Msg} (h : SesOk S) (hm : msgOk M = true) (hw : S.wt = true) (hb : blg M S.rq = true) : AccL S M ⟨S.nx, false, ⟨0, 0, 0, 0, []⟩, S.dn, 0⟩ true 0 := by
  obtain ⟨nx, wt, ⟨fr, to_, kd, nm, body⟩, dn, tr⟩ := S
  obtain ⟨fr2, to2, kd2, nm2, body2⟩ := M
  obtain rfl : wt = true := hw
  exact fun D xa da ya xk dj yk w hx hy hz => Accept_t nx fr to_ kd nm tr body dn fr2 to2 kd2 nm2 body2 hx hy hz h hm hb
end Go.Proofs.Ytbcfcdcomboljaa

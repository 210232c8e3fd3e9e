/- session.Valid, part z -/
import Derived.Test.YtbcfcdcomboljaaSesVt
import Derived.Test.YtbcfcdcomboljaaSesVe
namespace Go.Proofs.Ytbcfcdcomboljaa
open Go.RowKit
set_option linter.unusedVariables false
theorem Valid_t {D : Nat → Prop} {S : Ses} {xa ya : Option Addr} {xk yk : Nat} {w : World} (hS : SesOk S) (hx : Fct.at w D (.bs (.slice xa S.rq.body.length xk) S.rq.body)) (hy : Fct.at w D (.ms (.slice ya S.dn.length yk) S.dn)) :
    Calls Try.prog 21 #[.agg #[.int .i64 S.nx, .bool S.wt, .int .i64 S.rq.fr, .int .i64 S.rq.to_, .int .i64 S.rq.kd, .int .i64 S.rq.nm, .slice xa S.rq.body.length xk, .slice ya S.dn.length yk, .int .i64 S.tr]] w fun e w' => e = .returned (.bool true) ∧ Below w.heap.size w w' := by
  obtain ⟨nx, wt, ⟨fr, to_, kd, nm, body⟩, dn, tr⟩ := S
  obtain ⟨hH, hT, hE, hU⟩ := hS
  dsimp only at *
  cases wt
  · obtain ⟨h1, h2⟩ := hE rfl
    cases dn with
    | nil => exact Valid_en nx fr to_ kd nm tr body [] hx ⟨hH.1, hH.2.1⟩ h1 h2
    | cons d dn =>
      obtain ⟨b, off, j, e⟩ := Ms.open hy (by simp)
      rw [e] at hy ⊢
      exact Valid_eg nx fr to_ kd nm tr body _ hx hy hH h1 h2 hU
  · obtain ⟨h1, h2⟩ := hT rfl
    cases dn with
    | nil => exact Valid_tn nx fr to_ kd nm tr body [] hx ⟨hH.1, hH.2.1⟩ h1 h2
    | cons d dn =>
      obtain ⟨b, off, j, e⟩ := Ms.open hy (by simp)
      rw [e] at hy ⊢
      exact Valid_tg nx fr to_ kd nm tr body _ hx hy hH h1 h2 hU
theorem Valid_f {D : Nat → Prop} {S : Ses} {xa ya : Option Addr} {xk yk : Nat} {w : World} (hS : ¬ SesOk S) (hx : Fct.at w D (.bs (.slice xa S.rq.body.length xk) S.rq.body)) (hy : Fct.at w D (.ms (.slice ya S.dn.length yk) S.dn)) :
    Calls Try.prog 21 #[.agg #[.int .i64 S.nx, .bool S.wt, .int .i64 S.rq.fr, .int .i64 S.rq.to_, .int .i64 S.rq.kd, .int .i64 S.rq.nm, .slice xa S.rq.body.length xk, .slice ya S.dn.length yk, .int .i64 S.tr]] w fun e w' => e = .returned (.bool false) ∧ Below w.heap.size w w' := by
  obtain ⟨nx, wt, ⟨fr, to_, kd, nm, body⟩, dn, tr⟩ := S
  dsimp only at *
  by_cases hH : 0 ≤ nx ∧ nx ≤ 1073741824 ∧ dn.length ≤ 1000
  case neg => exact Valid_h nx fr to_ kd nm tr body dn wt hx hH
  cases wt
  · cases h1 : msgZ ⟨fr, to_, kd, nm, body⟩
    · exact Valid_eb1 nx fr to_ kd nm tr body dn hx hH h1
    · by_cases h2 : tr = 0
      case neg => exact Valid_eb2 nx fr to_ kd nm tr body dn hx hH h1 h2
      have hU : ¬ UpTo dn dn.length := fun hU => hS ⟨hH, by simp, fun _ => ⟨h1, h2⟩, hU⟩
      obtain ⟨k, hk, hu, hb⟩ := first_bad _ hU
      obtain ⟨b, off, j, e⟩ := Ms.open hy (by rintro rfl; simp at hk)
      rw [e] at hy ⊢
      rcases hb with hb | hb
      · exact Valid_el1 nx fr to_ kd nm tr body dn hx hy hH h1 h2 ⟨hk, hu, hb⟩
      · exact Valid_el2 nx fr to_ kd nm tr body dn hx hy hH h1 h2 ⟨hk, hu, hb⟩
  · cases h1 : msgOk ⟨fr, to_, kd, nm, body⟩
    · exact Valid_tb1 nx fr to_ kd nm tr body dn hx hH h1
    · by_cases h2 : nm = nx - 1 ∧ 1 ≤ tr ∧ tr ≤ 100
      case neg => exact Valid_tb2 nx fr to_ kd nm tr body dn hx hH h1 h2
      have hU : ¬ UpTo dn dn.length := fun hU => hS ⟨hH, fun _ => ⟨h1, h2⟩, by simp, hU⟩
      obtain ⟨k, hk, hu, hb⟩ := first_bad _ hU
      obtain ⟨b, off, j, e⟩ := Ms.open hy (by rintro rfl; simp at hk)
      rw [e] at hy ⊢
      rcases hb with hb | hb
      · exact Valid_tl1 nx fr to_ kd nm tr body dn hx hy hH h1 h2 ⟨hk, hu, hb⟩
      · exact Valid_tl2 nx fr to_ kd nm tr body dn hx hy hH h1 h2 ⟨hk, hu, hb⟩
end Go.Proofs.Ytbcfcdcomboljaa

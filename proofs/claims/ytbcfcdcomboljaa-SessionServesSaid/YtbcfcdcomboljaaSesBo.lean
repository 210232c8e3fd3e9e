/- Known and Done of both: one relation. -/
import Derived.Test.YtbcfcdcomboljaaSesBp
import Derived.Test.YtbcfcdcomboljaaSesS
namespace Go.Proofs.Ytbcfcdcomboljaa
open Go.RowKit
set_option linter.unusedVariables false
theorem known_both (S : Ses) (M : Msg) : ∃ a c, KnRel S M a c ∧ KnLike 15 S M a c ∧ KnLike 16 S M a c := by
  obtain ⟨nx, wt, ⟨fr, to_, kd, nm, body⟩, dn, tr⟩ := S
  obtain ⟨fr2, to2, kd2, nm2, body2⟩ := M
  by_cases h : SesOk ⟨nx, wt, ⟨fr, to_, kd, nm, body⟩, dn, tr⟩
  case neg => exact ⟨M0, 1, .inl ⟨fun g => h g.1, rfl, rfl⟩, fun D xa da ya xk dj yk w hx hy hz => Known_1a nx fr to_ kd nm tr wt body dn fr2 to2 kd2 nm2 body2 hx hy hz h, fun D xa da ya xk dj yk w hx hy hz => rKnown_1a nx fr to_ kd nm tr wt body dn fr2 to2 kd2 nm2 body2 hx hy hz h⟩
  cases hm : msgOk ⟨fr2, to2, kd2, nm2, body2⟩
  · exact ⟨M0, 1, .inl ⟨(fun g => by rw [hm] at g; exact absurd g.2 (by decide)), rfl, rfl⟩, fun D xa da ya xk dj yk w hx hy hz => Known_1b nx fr to_ kd nm tr wt body dn fr2 to2 kd2 nm2 body2 hx hy hz h hm, fun D xa da ya xk dj yk w hx hy hz => rKnown_1b nx fr to_ kd nm tr wt body dn fr2 to2 kd2 nm2 body2 hx hy hz h hm⟩
  by_cases hf : ∃ k, ∃ h : k < dn.length, dn[k].to_ = fr2
  case neg =>
    have hn : ∀ k (h : k < dn.length), dn[k].to_ ≠ fr2 := fun k hk e => hf ⟨k, hk, e⟩
    exact ⟨M0, 7, .inr ⟨⟨h, hm⟩, .inl ⟨hn, rfl, rfl⟩⟩, fun D xa da ya xk dj yk w hx hy hz => Known_7n nx fr to_ kd nm tr wt body dn fr2 to2 kd2 nm2 body2 hx hy hz h hm hn, fun D xa da ya xk dj yk w hx hy hz => rKnown_7n nx fr to_ kd nm tr wt body dn fr2 to2 kd2 nm2 body2 hx hy hz h hm hn⟩
  obtain ⟨k, hk, hto⟩ := hf
  have hne : dn ≠ [] := fun e => by subst e; exact absurd hk (Nat.not_lt_zero _)
  rcases Int.lt_trichotomy dn[k].nm nm2 with hc | hc | hc
  · refine ⟨M0, 7, .inr ⟨⟨h, hm⟩, .inr ⟨k, hk, hto, .inl ⟨hc, rfl, rfl⟩⟩⟩, fun D xa da ya xk dj yk w hx hy hz => ?_, fun D xa da ya xk dj yk w hx hy hz => ?_⟩ <;> obtain ⟨db, df, rfl⟩ := opn hy hne
    · exact Known_7l nx fr to_ kd nm tr wt body dn fr2 to2 kd2 nm2 body2 k hx hy hz h hm ⟨hk, hto, hc⟩
    · exact rKnown_7l nx fr to_ kd nm tr wt body dn fr2 to2 kd2 nm2 body2 k hx hy hz h hm ⟨hk, hto, hc⟩
  · have hg : dn.getD k M0 = dn[k] := by simp [List.getD, hk]
    refine ⟨dn[k], 0, .inr ⟨⟨h, hm⟩, .inr ⟨k, hk, hto, .inr (.inr ⟨hc, rfl, rfl⟩)⟩⟩, fun D xa da ya xk dj yk w hx hy hz => ?_, fun D xa da ya xk dj yk w hx hy hz => ?_⟩ <;> obtain ⟨db, df, rfl⟩ := opn hy hne <;> rw [← hg]
    · exact Known_ok nx fr to_ kd nm tr wt body dn fr2 to2 kd2 nm2 body2 k hx hy hz h hm hk ⟨hto, hc⟩
    · exact rKnown_ok nx fr to_ kd nm tr wt body dn fr2 to2 kd2 nm2 body2 k hx hy hz h hm ⟨hk, hto, hc⟩
  · refine ⟨M0, 14, .inr ⟨⟨h, hm⟩, .inr ⟨k, hk, hto, .inr (.inl ⟨hc, rfl, rfl⟩)⟩⟩, fun D xa da ya xk dj yk w hx hy hz => ?_, fun D xa da ya xk dj yk w hx hy hz => ?_⟩ <;> obtain ⟨db, df, rfl⟩ := opn hy hne
    · exact Known_14 nx fr to_ kd nm tr wt body dn fr2 to2 kd2 nm2 body2 k hx hy hz h hm ⟨hk, hto, hc⟩
    · exact rKnown_14 nx fr to_ kd nm tr wt body dn fr2 to2 kd2 nm2 body2 k hx hy hz h hm ⟨hk, hto, hc⟩
theorem done_both (S : Ses) (M A : Msg) : ∃ a c, DnRel S M A a c ∧ DnLike 17 S M A a c ∧ DnLike 18 S M A a c := by
  obtain ⟨nx, wt, ⟨fr, to_, kd, nm, body⟩, dn, tr⟩ := S
  obtain ⟨fr2, to2, kd2, nm2, body2⟩ := M
  obtain ⟨fr3, to3, kd3, nm3, body3⟩ := A
  by_cases h : SesOk ⟨nx, wt, ⟨fr, to_, kd, nm, body⟩, dn, tr⟩
  case neg => exact ⟨S0, 1, .inl ⟨fun g => h g.1, rfl, rfl⟩, fun D xa da ya za xk dj yk zk w hx hy hz hv => Done_1a nx fr to_ kd nm tr wt body dn fr2 to2 kd2 nm2 body2 fr3 to3 kd3 nm3 body3 hx hy hz hv h, fun D xa da ya za xk dj yk zk w hx hy hz hv => rDone_1a nx fr to_ kd nm tr wt body dn fr2 to2 kd2 nm2 body2 fr3 to3 kd3 nm3 body3 hx hy hz hv h⟩
  cases hm : msgOk ⟨fr2, to2, kd2, nm2, body2⟩
  · exact ⟨S0, 1, .inl ⟨(fun g => by rw [hm] at g; exact absurd g.2.1 (by decide)), rfl, rfl⟩, fun D xa da ya za xk dj yk zk w hx hy hz hv => Done_1b nx fr to_ kd nm tr wt body dn fr2 to2 kd2 nm2 body2 fr3 to3 kd3 nm3 body3 hx hy hz hv h hm, fun D xa da ya za xk dj yk zk w hx hy hz hv => rDone_1b nx fr to_ kd nm tr wt body dn fr2 to2 kd2 nm2 body2 fr3 to3 kd3 nm3 body3 hx hy hz hv h hm⟩
  cases ha : msgOk ⟨fr3, to3, kd3, nm3, body3⟩
  · exact ⟨S0, 1, .inl ⟨(fun g => by rw [ha] at g; exact absurd g.2.2 (by decide)), rfl, rfl⟩, fun D xa da ya za xk dj yk zk w hx hy hz hv => Done_1c nx fr to_ kd nm tr wt body dn fr2 to2 kd2 nm2 body2 fr3 to3 kd3 nm3 body3 hx hy hz hv h hm ha, fun D xa da ya za xk dj yk zk w hx hy hz hv => rDone_1c nx fr to_ kd nm tr wt body dn fr2 to2 kd2 nm2 body2 fr3 to3 kd3 nm3 body3 hx hy hz hv h hm ha⟩
  by_cases hf : ∃ k, ∃ h : k < dn.length, dn[k].to_ = fr2
  case neg =>
    have hn : ∀ k (h : k < dn.length), dn[k].to_ ≠ fr2 := fun k hk e => hf ⟨k, hk, e⟩
    by_cases h9 : dn.length = 1000
    · exact ⟨S0, 5, .inr ⟨⟨h, hm, ha⟩, .inl ⟨hn, .inl ⟨h9, rfl, rfl⟩⟩⟩, fun D xa da ya za xk dj yk zk w hx hy hz hv => Done_5 nx fr to_ kd nm tr wt body dn fr2 to2 kd2 nm2 body2 fr3 to3 kd3 nm3 body3 hx hy hz hv h hm ha hn h9, fun D xa da ya za xk dj yk zk w hx hy hz hv => rDone_5 nx fr to_ kd nm tr wt body dn fr2 to2 kd2 nm2 body2 fr3 to3 kd3 nm3 body3 hx hy hz hv h hm ha hn h9⟩
    · obtain ⟨i, hi⟩ := found_ex (asc_of h.2.2.2) hn
      refine ⟨⟨nx, wt, ⟨fr, to_, kd, nm, body⟩, insL dn i ⟨to2, fr2, kd3, nm2, body3⟩, tr⟩, 0, .inr ⟨⟨h, hm, ha⟩, .inl ⟨hn, .inr ⟨h9, i, hi, rfl, rfl⟩⟩⟩, fun D xa da ya za xk dj yk zk w hx hy hz hv => ?_, fun D xa da ya za xk dj yk zk w hx hy hz hv => rDone_ins nx fr to_ kd nm tr wt body dn fr2 to2 kd2 nm2 body2 fr3 to3 kd3 nm3 body3 i hx hy hz hv h hm ha hn h9 hi⟩
      cases da with
      | some da =>
        refine (Done_insA nx fr to_ kd nm tr wt body dn fr2 to2 kd2 nm2 body2 fr3 to3 kd3 nm3 body3 hx hy hz hv h hm ha hn h9).mono ?_
        rintro e w' ⟨⟨j, hj, hr⟩, hb⟩
        obtain rfl := found_uniq hi hj
        exact ⟨hr, hb⟩
      | none =>
        have hd : dn = [] := Classical.byContradiction fun hl => by obtain ⟨b, off, e⟩ := opn hy hl; exact absurd e (by simp)
        subst hd
        obtain rfl := (found_nil hi).1
        exact Done_insN nx fr to_ kd nm tr wt body fr2 to2 kd2 nm2 body2 fr3 to3 kd3 nm3 body3 hx hy hz hv h hm ha
  obtain ⟨k, hk, hto⟩ := hf
  have hne : dn ≠ [] := fun e => by subst e; exact absurd hk (Nat.not_lt_zero _)
  rcases Int.lt_trichotomy dn[k].nm nm2 with hc | hc | hc
  · refine ⟨⟨nx, wt, ⟨fr, to_, kd, nm, body⟩, dn.set k ⟨to2, fr2, kd3, nm2, body3⟩, tr⟩, 0, .inr ⟨⟨h, hm, ha⟩, .inr ⟨k, hk, hto, .inr (.inr ⟨hc, rfl, rfl⟩)⟩⟩, fun D xa da ya za xk dj yk zk w hx hy hz hv => ?_, fun D xa da ya za xk dj yk zk w hx hy hz hv => rDone_rep nx fr to_ kd nm tr wt body dn fr2 to2 kd2 nm2 body2 fr3 to3 kd3 nm3 body3 k hx hy hz hv h hm ha ⟨hk, hto, hc⟩⟩
    obtain ⟨db, df, rfl⟩ := opn hy hne
    exact Done_rep nx fr to_ kd nm tr wt body dn fr2 to2 kd2 nm2 body2 fr3 to3 kd3 nm3 body3 k hx hy hz hv h hm ha ⟨hk, hto, hc⟩
  · refine ⟨S0, 8, .inr ⟨⟨h, hm, ha⟩, .inr ⟨k, hk, hto, .inl ⟨hc, rfl, rfl⟩⟩⟩, fun D xa da ya za xk dj yk zk w hx hy hz hv => ?_, fun D xa da ya za xk dj yk zk w hx hy hz hv => rDone_8 nx fr to_ kd nm tr wt body dn fr2 to2 kd2 nm2 body2 fr3 to3 kd3 nm3 body3 k hx hy hz hv h hm ha ⟨hk, hto, hc⟩⟩
    obtain ⟨db, df, rfl⟩ := opn hy hne
    exact Done_8 nx fr to_ kd nm tr wt body dn fr2 to2 kd2 nm2 body2 fr3 to3 kd3 nm3 body3 k hx hy hz hv h hm ha ⟨hk, hto, hc⟩
  · refine ⟨S0, 14, .inr ⟨⟨h, hm, ha⟩, .inr ⟨k, hk, hto, .inr (.inl ⟨hc, rfl, rfl⟩)⟩⟩, fun D xa da ya za xk dj yk zk w hx hy hz hv => ?_, fun D xa da ya za xk dj yk zk w hx hy hz hv => rDone_14 nx fr to_ kd nm tr wt body dn fr2 to2 kd2 nm2 body2 fr3 to3 kd3 nm3 body3 k hx hy hz hv h hm ha ⟨hk, hto, hc⟩⟩
    obtain ⟨db, df, rfl⟩ := opn hy hne
    exact Done_14 nx fr to_ kd nm tr wt body dn fr2 to2 kd2 nm2 body2 fr3 to3 kd3 nm3 body3 k hx hy hz hv h hm ha ⟨hk, hto, hc⟩
end Go.Proofs.Ytbcfcdcomboljaa

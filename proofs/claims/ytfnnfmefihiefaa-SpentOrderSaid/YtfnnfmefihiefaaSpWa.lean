/- Slices of one use in a drawn region; a list of the call's own becomes a fact; literals of uses. -/
import Derived.Test.YtfnnfmefihiefaaSpU
namespace Go.Proofs.Ytfnnfmefihiefaa
open Go.RowKit
set_option linter.unusedVariables false
set_option linter.unusedSimpArgs false
theorem op_slice1 {o : Oper} {a : Act} {w : World} {K : Act → World → Prop} {Q : Exit → Act → World → Prop} {EE : Prop} {ops : Array Oper} (d : Option Tmp) (hgd : o.guard = none) (hd : o.dst = d) (x : Operand) (ho : o.op = .buildSlice 23 1 #[(0, x)]) (cs : List Value) (hl : cs.length = 83) (hx : a.eval x = .agg cs.toArray)
    (h : K (a.put d (.slice (some ⟨w.heap.size, 0, none⟩) 1 1)) (w.alloc (.cells cs.toArray 44))) : if Region.wanted o (yielded ops a.tmps) = true then Oper.wp Try.prog o a w K Q else EE := by
  have hw : Region.wanted o (yielded ops a.tmps) = true := by simp [Region.wanted, hgd]
  rw [if_pos hw]
  subst hd
  have hb := built_slice1 hl
  unfold Program.builtSlice at hb
  obtain ⟨i0, hi, hz0, hz1, hz2⟩ := info_parts Try.infoUse
  simp only [hi, hz0] at hb
  by_cases hc : 1 * i0.size > 2 ^ 24 ∨ 1 * i0.size = 0
  · rw [if_pos hc] at hb; cases hb
  · rw [if_neg hc] at hb
    exact wp_buildSlice 23 44 1 #[(0, x)] ho cs.toArray i0 _ Try.underlying23 hi hz0 (fun h' => hc (.inl h')) (fun h' => hc (.inr h')) (by rw [← hb]; simp [hx]) h
theorem Env.freezeU {D0 : Nat → Prop} {w W : World} {A sg : List Bx} {G : List Fct} {cs : List Value} {v : Value} {X : List Uv} (E : Env D0 w (A ++ sg) G W) (h : OU sg cs v X) (i : Nat) (e : G[i]? = some (.gn (gUd X))) : Env D0 w A (.gn (gUl v X) :: G) W := by
  have hp := held_iff.1 E.box
  have hpw := (List.pairwise_append.1 hp.2)
  have hA : HeldF w.heap.size A W := held_iff.2 ⟨fun p h => hp.1 p (by simp [h]), hpw.1⟩
  have hD : ∀ b, DF D0 w.heap.size (A ++ sg) b → DF D0 w.heap.size A b := fun b hb => ⟨fun p h => hb.1 p (by simp [h]), hb.2⟩
  have hG : HeldG (DF D0 w.heap.size A) G W := E.fct.turn (Nat.le_refl _) (fun b _ hb => hD b hb) (fun _ _ _ _ => rfl)
  have hd : (gUd X).at_ W (DF D0 w.heap.size A) := hG.get i e
  refine ⟨E.bel, hA, ⟨?_, hd⟩, hG⟩
  rcases h.1 with ⟨rfl, rfl, rfl, h0⟩ | ⟨g, cap, rfl, rfl, e1, e2, e3⟩
  · obtain rfl : X = [] := List.length_eq_zero_iff.1 h0
    exact Rw.nil _ _ _
  · have hB := hp.1 (g, 44, cs) (by simp)
    have hne : ∀ p ∈ A, p.1 ≠ g := fun p hp2 => hpw.2.2 p hp2 (g, 44, cs) (by simp)
    refine ⟨_, cap, rfl, e1, e2, ucl_len hd, ucl_one hd, fun _ => ⟨g, 0, rfl, ⟨hB.lt, hne, .inr hB.1⟩, fun j u hu => ?_⟩⟩
    rw [Nat.zero_add]
    rw [← h.2, List.getElem?_take] at hu
    split at hu
    · exact hB.cell _ hu
    · cases hu
theorem built_use3 {s : Sp} (h : SpOk s) (A B : Int) (la pa : Value) : Try.prog.built 44 [(0, .int .i64 A), (1, .int .i64 B), (2, .agg (spc s la pa).toArray)] = some (usc ⟨A, B, s, 0⟩ la pa).toArray := by
  obtain ⟨fields, hu, hp⟩ := usePlaces
  rw [built_of hu zUse hp]
  show Instr.fill _ (usc zU nilV nilV).toArray _ = _
  rw [fill_to 0 1 [.int .i64 A] (usc zU nilV nilV) (usc ⟨A, 0, zS, 0⟩ nilV nilV) rfl rfl rfl (by decide) rfl, fill_to 1 1 [.int .i64 B] (usc ⟨A, 0, zS, 0⟩ nilV nilV) (usc ⟨A, B, zS, 0⟩ nilV nilV) rfl rfl rfl (show 1 + 1 ≤ (usc ⟨A, 0, zS, 0⟩ nilV nilV).length by rw [usc_len (u := ⟨A, 0, zS, 0⟩) zS_ok]; omega) rfl]
  rw [fill_to 2 80 (spc s la pa) (usc ⟨A, B, zS, 0⟩ nilV nilV) (usc ⟨A, B, s, 0⟩ la pa) rfl rfl (spc_len h la pa) (by rw [usc_len (u := ⟨A, B, zS, 0⟩) zS_ok]; omega) (by rw [show 2 + 80 = 82 from rfl, drop_usc]; rfl)]
  rfl
theorem exec_use3 {oi : Oper} {ev : Operand → Value} {w : World} {u : Us} {A B : Int} {s : Sp} {la pa : Value} (hu : u = ⟨A, B, s, 0⟩) (h : SpOk s)
    (hx : ∃ x y z, oi.op = .build 44 #[(0, x), (1, y), (2, z)] ∧ ev x = .int .i64 A ∧ ev y = .int .i64 B ∧ ev z = .agg (spc s la pa).toArray) :
    (execOp ev oi).run Try.prog w = .ok (.value (.agg (usc u la pa).toArray)) w := by
  obtain ⟨x, y, z, ho, h1, h2, h3⟩ := hx
  subst hu
  exact exec_build_b _ ho [(0, .int .i64 A), (1, .int .i64 B), (2, .agg (spc s la pa).toArray)] (by simp [h1, h2, h3]) _ (built_use3 h A B la pa)
theorem made_s {D : Nat → Prop} (a n : Int) (l : List Int) {s : Sp} {xa : Option Addr} {xk : Nat} {w : World} (hx : Fct.at w D (.rw (.slice xa l.length xk) l.length 1 (icl l))) (wa : wI a ∧ wI n) (hm : l.length ≤ 1000) (hs : s = mkS a n l) :
    Calls Try.prog 9 #[.int .i64 a, .int .i64 n, .slice xa l.length xk] w fun e w' => RetSp (fun b => w.heap.size ≤ b) s e w' ∧ Below w.heap.size w w' := by subst hs; exact made_c a n l hx wa hm
theorem gSp.cast {W : World} {D : Nat → Prop} {s s' : Sp} {la pa : Value} (e : s = s') (h : (gSp s la pa).at_ W D) : (gSp s' la pa).at_ W D := e ▸ h
end Go.Proofs.Ytfnnfmefihiefaa

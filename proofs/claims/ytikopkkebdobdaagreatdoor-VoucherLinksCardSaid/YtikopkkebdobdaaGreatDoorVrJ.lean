/- Certify, where all is found. -/
import Derived.Test.YtikopkkebdobdaaGreatDoorVrH
namespace Go.Proofs.YtikopkkebdobdaaGreatDoor
open Go.RowKit DivMath WordMath
set_option linter.unusedVariables false
set_option linter.unusedSimpArgs false
theorem Tryz.infoCert : (Tryz.prog.info? 57).map (fun i => (i.zero, i.size, i.bytes)) = some (some (Value.agg #[.slice none 0 0, .slice none 0 0, .slice none 0 0]), 3, 72) := by kernel_rfl
theorem tiC : TI 55 57 3 := .ofInfo Tryz.underlying55 Tryz.infoCert rfl (by omega) (by omega)
/-- cells read as certificates -/
def gCl (d : Nat) (hs : List Value) (ps : List Ct) : GF where
  at_ w D := hs.length = ps.length * 3 ∧ ∀ i (h : i < ps.length), ∃ u v z, hs[i * 3]? = some u ∧ hs[i * 3 + 1]? = some v ∧ hs[i * 3 + 2]? = some z ∧ CtAt d w D ps[i] u v z
  turn h hs hD hc := ⟨h.1, fun i hi => by obtain ⟨u, v, z, e1, e2, e3, h4⟩ := h.2 i hi; exact ⟨u, v, z, e1, e2, e3, CtAt.turn hs hD hc h4⟩⟩
theorem ctGe {f : Fct} {W : World} {P : Nat → Prop} {B : Nat} (h : Fct.at W (fun b => B ≤ b) f) : Fct.at W (fun b => P b ∨ B ≤ b) f := Fct.turn h (Nat.le_refl _) (fun _ _ h => .inr h) (fun _ _ _ _ => rfl)
def OC (sg : List Bx) (cs : List Value) (v : Value) (hs : List Value) (n : Nat) : Prop := OS 57 3 sg cs v n ∧ cs.take (n * 3) = hs
section
variable {D0 D : Nat → Prop} {w W : World} {F sg : List Bx} {G : List Fct} {d n : Nat} {c p : Ct} {u v z : Value} {hs cs : List Value} {ps : List Ct}
theorem gCl.nil : (gCl d [] []).at_ W D := ⟨rfl, fun i h => by simp at h⟩
theorem gCl.app (h : (gCl d hs ps).at_ W D) (hp : Fct.at W D (.gn (gCt d p u v z))) : (gCl d (hs ++ [u, v, z]) (ps ++ [p])).at_ W D := by
  have h0 : hs.length = ps.length * 3 := h.1
  refine ⟨by rw [List.length_append, List.length_append, h0]; simp only [List.length_cons, List.length_nil]; omega, fun i hi => ?_⟩
  by_cases e : i < ps.length
  · obtain ⟨u', v', z', e1, e2, e3, h4⟩ := h.2 i e
    refine ⟨u', v', z', ?_, ?_, ?_, ?_⟩
    · rw [List.getElem?_append_left (by omega)]; exact e1
    · rw [List.getElem?_append_left (by omega)]; exact e2
    · rw [List.getElem?_append_left (by omega)]; exact e3
    · rw [List.getElem_append_left e]; exact h4
  · have e2 : i = ps.length := by simp only [List.length_append, List.length_cons, List.length_nil] at hi; omega
    subst e2
    refine ⟨u, v, z, ?_, ?_, ?_, ?_⟩
    · rw [List.getElem?_append_right (by omega), show ps.length * 3 - hs.length = 0 by omega]; rfl
    · rw [List.getElem?_append_right (by omega), show ps.length * 3 + 1 - hs.length = 1 by omega]; rfl
    · rw [List.getElem?_append_right (by omega), show ps.length * 3 + 2 - hs.length = 2 by omega]; rfl
    · rw [List.getElem_append_right (Nat.le_refl _)]; simp; exact hp
theorem OC.nil : OC [] [] (.slice none 0 0) [] 0 := ⟨.inl ⟨rfl, rfl, rfl, rfl⟩, rfl⟩
theorem OC.len (h : OC sg cs v hs n) : ∃ a k, v = .slice a n k := h.1.len
/-- the certificate that the walk hands back -/
theorem Env.outCt {va na ra : Option Addr} {vk nk rk : Nat} (E : Env (fun _ => False) w F G W) (hO : OC sg cs (.slice va n vk) hs n) (hsg : ∀ q ∈ sg, q ∈ F) (hn : n = c.parts.length) (i : Nat) (e : G[i]? = some (.gn (gCl d hs c.parts))) (j : Nat) (e2 : G[j]? = some (.rw (.slice na 1 nk) 1 1 (wd c.num))) (l : Nat) (e3 : G[l]? = some (.rw (.slice ra 1 rk) 1 1 (wd c.root))) :
    Fct.at W (fun b => w.heap.size ≤ b) (.gn (gCt (d + 1) c (.slice na 1 nk) (.slice ra 1 rk) (.slice va n vk))) := by
  have f1 := Rw.from2 (E.out j e2)
  have f2 := Rw.from2 (E.out l e3)
  have hl : (gCl d hs c.parts).at_ W (fun b => False ∨ w.heap.size ≤ b) := E.out i e
  subst hn
  obtain ⟨h1, h2⟩ := hO
  refine ⟨⟨_, _, rfl⟩, f1, ⟨_, _, rfl⟩, f2, va, vk, rfl, ?_⟩
  rcases h1 with ⟨rfl, rfl, e4, h0⟩ | ⟨g, cap, rfl, e4, k1, k2, k3⟩
  · simp only [Value.slice.injEq] at e4
    obtain ⟨_, _, e6⟩ := e4
    exact ⟨by omega, by omega, fun hne => absurd (List.length_eq_zero_iff.1 h0) hne⟩
  · simp only [Value.slice.injEq, true_and] at e4
    obtain ⟨rfl, rfl⟩ := e4
    refine ⟨k1, k2, fun _ => ⟨g, 0, rfl, ?_, fun t ht => ?_⟩⟩
    · have hB := (held_iff.1 E.box).1 (g, 57, cs) (hsg _ (by simp))
      exact ⟨hB.lt, hB.1⟩
    · have hB := (held_iff.1 E.box).1 (g, 57, cs) (hsg _ (by simp))
      obtain ⟨u, v, z, q1, q2, q3, q4⟩ := hl.2 t ht
      have tk : ∀ (m : Nat) (x : Value), hs[m]? = some x → cs[m]? = some x := by
        intro m x hm
        rw [← h2, List.getElem?_take] at hm
        split at hm
        · exact hm
        · cases hm
      refine ⟨u, v, z, ?_, ?_, ?_, CtAt.turn (Nat.le_refl _) (fun b _ h => h.resolve_left id) (fun _ _ _ _ => rfl) q4⟩
      · rw [Nat.zero_add]; exact hB.cell _ (tk _ _ q1)
      · rw [Nat.zero_add]; exact hB.cell _ (tk _ _ q2)
      · rw [Nat.zero_add]; exact hB.cell _ (tk _ _ q3)
theorem Env.outCt2 {va na ra : Option Addr} {vk nk rk Nx Rx : Nat} (E : Env (fun _ => False) w F G W) (hO : OC sg cs (.slice va n vk) hs n) (hsg : ∀ q ∈ sg, q ∈ F) (hn : n = c.parts.length) (hN : c.num = Nx) (hR : c.root = Rx) (i : Nat) (e : G[i]? = some (.gn (gCl d hs (c.parts.take n)))) (j : Nat) (e2 : G[j]? = some (.rw (.slice na 1 nk) 1 1 (wd Nx))) (l : Nat) (e3 : G[l]? = some (.rw (.slice ra 1 rk) 1 1 (wd Rx))) :
    Fct.at W (fun b => w.heap.size ≤ b) (.gn (gCt (d + 1) c (.slice na 1 nk) (.slice ra 1 rk) (.slice va n vk))) := by
  subst hN hR
  rw [show c.parts.take n = c.parts from by rw [hn, List.take_length]] at e
  exact Env.outCt E hO hsg hn i e j e2 l e3
end
def CertH (d : Nat) : Prop := ∀ (c : Ct) {w : World}, Laid w → CtDo d c → Calls Tryz.prog 31 #[.int .i64 (c.num : Nat)] w fun e w' => (∃ xna xnk xra xrk xza xzk, e = .returned (.tuple #[.agg #[.slice xna 1 xnk, .slice xra 1 xrk, .slice xza c.parts.length xzk], .int .i64 0]) ∧ Hid (Fct.at w' (fun b => w.heap.size ≤ b) (.gn (gCt d c (.slice xna 1 xnk) (.slice xra 1 xrk) (.slice xza c.parts.length xzk))))) ∧ Below w.heap.size w w'
set_option maxRecDepth 100000 in
set_option maxHeartbeats 8000000 in
theorem Certify_s (d : Nat) (c : Ct) (Nx Rx : Nat) (l : List Nat) {w : World}  (hl0 : Laid w) (IH0 : CertH d) (hN0 : c.num = Nx) (hR0 : c.root = Rx) (hL0 : c.parts.map Ct.num = l) (kx0 : Dok Nx Rx l) (ki0 : ∀ i (h : i < c.parts.length), CtDo d c.parts[i]) (hp0 : c.parts.length ≤ 100) :
    Calls Tryz.prog 31 #[.int .i64 (Nx : Nat)] w fun e w' => (∃ xna xnk xra xrk xza xzk, e = .returned (.tuple #[.agg #[.slice xna 1 xnk, .slice xra 1 xrk, .slice xza c.parts.length xzk], .int .i64 0]) ∧ Hid (Fct.at w' (fun b => w.heap.size ≤ b) (.gn (gCt (d + 1) c (.slice xna 1 xnk) (.slice xra 1 xrk) (.slice xza c.parts.length xzk))))) ∧ Below w.heap.size w w' := by
  have E0 := Lib.hid (Env.start (fun _ => False) w)
  go_enter Tryz.func31, Tryz.ntmps31
  have hl := Lib.hid hl0
  have IH := Lib.hid IH0
  have hN := Lib.hid hN0
  have hR := Lib.hid hR0
  have hL := Lib.hid hL0
  have kx := Lib.hid kx0
  have ki := Lib.hid ki0
  clear hl0 IH0 hN0 hR0 hL0 kx0 ki0
  obtain ⟨⟨j1, j2⟩, j3, j4, j5, j6⟩ := kx.out
  have oN := Lib.hid j1
  have oR := Lib.hid j2
  have hT0 : (Nx : Int) < Top := by unfold Top; have := j1.2; omega
  have hT := Lib.hid hT0
  have hn9 : (Nx : Int) ≤ 4294967295 := by have := j1.2; omega
  have hb := Lib.hid (belowB_of j4 hT0)
  have hr := Lib.hid j6
  have hg := Lib.hid (fac_good j3 hT0 j5)
  have h2 := Lib.hid j3
  obtain ⟨p1, hp1⟩ : ∃ p1, p1 = Nx - 1 := ⟨_, rfl⟩
  rw [← hp1] at j5
  have hf := Lib.hid j5
  have e1 : (Nx : Int) - 1 = (p1 : Int) := by omega
  have h11 : 1 ≤ (p1 : Int) ∧ (p1 : Int) ≤ 2305843009213693951 := by omega
  clear j1 j2 j3 j4 j5 j6 hp1 hT0
  have hll : l.length = c.parts.length := by rw [← hL.out, List.length_map]
  have HLL := Lib.hid hll
  have hl9 : l.length ≤ 100 := by omega
  have HP0 := Lib.hid hp0
  clear hll hp0
  go_wp2_with fail
  have E1 : Hid (Env (fun _ => False) w [(w.heap.size, 57, [.slice none 0 0, .slice none 0 0, .slice none 0 0])] [] _) := Lib.hid ((E0.out.push 57 [.slice none 0 0, .slice none 0 0, .slice none 0 0] (w.heap.size) (by simp)))
  refine (below_c (Nx : Int) _ (hl.out.below E1.out.bel) (by omega) hb.out).mono ?_
  rintro e w1 ⟨rfl, hb⟩
  have E2 := Lib.hid (E1.out.below hb)
  clear E0 E1 hb
  go_wp2_with fail
  refine (Fac_some (D := fun _ => False) p1 l (hl.out.below E2.out.bel) h11.1 h11.2 hf.out).mono ?_
  rintro e w2 ⟨⟨ya, yk, rfl, yh⟩, hb⟩
  have E3 := Lib.hid (E2.out.got (E2.out.below hb) (.rw (.slice ya l.length yk) l.length 1 (ncl l)) (Lib.hid (Rw.ge yh.out)).out)
  clear E2 hb
  go_wp2_with fail
  refine (nat1 Nx oN.out).mono ?_
  rintro e w3 ⟨⟨xna, xnk, rfl, xnh⟩, hb⟩
  have E4 := Lib.hid (E3.out.got (E3.out.below hb) (.rw (.slice xna 1 xnk) 1 1 (wd Nx)) (Lib.hid (Rw.ge xnh.out)).out)
  clear E3 hb
  go_wp2_with fail
  refine (root_c Nx Rx l (E4.out.fc 1 rfl) h2.out hT.out hg.out.2 hg.out.1 hr.out).mono ?_
  rintro e w4 ⟨rfl, hb⟩
  have E5 := Lib.hid (E4.out.below hb)
  clear E4 hb
  go_wp2_with fail
  refine (nat1 Rx oR.out).mono ?_
  rintro e w5 ⟨⟨xra, xrk, rfl, xrh⟩, hb⟩
  have E6 := Lib.hid (E5.out.got (E5.out.below hb) (.rw (.slice xra 1 xrk) 1 1 (wd Rx)) (Lib.hid (Rw.ge xrh.out)).out)
  clear E5 hb
  go_wp2_with fail
  have E7 : Hid (Env (fun _ => False) w [(w5.heap.size, 57, [.slice xna 1 xnk, .slice xra 1 xrk, .slice none 0 0]), (w.heap.size, 57, [.slice none 0 0, .slice none 0 0, .slice none 0 0])] [.rw (.slice xra 1 xrk) 1 1 (wd Rx), .rw (.slice xna 1 xnk) 1 1 (wd Nx), .rw (.slice ya l.length yk) l.length 1 (ncl l)] _) := Lib.hid ((E6.out.push 57 [.slice xna 1 xnk, .slice xra 1 xrk, .slice none 0 0] (w5.heap.size) (by simp)))
  go_loopg [34] (l.length) (fun gk s34 wr => ∃ (k : Nat) (sg : List Bx) (cs : List Value) (va : Option Addr) (vk : Nat) (hs : List Value), s34 = .int .i64 (k : Int) ∧ Hid (Env (fun _ => False) w ((w5.heap.size, 57, [.slice xna 1 xnk, .slice xra 1 xrk, .slice va k vk]) :: (w.heap.size, 57, [.slice none 0 0, .slice none 0 0, .slice none 0 0]) :: sg) [.gn (gCl d hs (c.parts.take k)), .rw (.slice xra 1 xrk) 1 1 (wd Rx), .rw (.slice xna 1 xnk) 1 1 (wd Nx), .rw (.slice ya l.length yk) l.length 1 (ncl l)] wr) ∧ Hid (OC sg cs (.slice va k vk) hs k) ∧ Hid (k ≤ l.length ∧ gk = l.length - k))
  case atStart => exact ⟨0, [], [], none, 0, [], rfl, Lib.hid ((E7.out.note (.gn (gCl d [] (c.parts.take 0))) gCl.nil).cast (by simp)), Lib.hid OC.nil, Lib.hid ⟨Nat.zero_le _, rfl⟩⟩
  case round =>
    clear E6 E7
    obtain ⟨k, sg, cs, va, vk, hs, rfl, EL, hO, HA⟩ := hrel
    obtain ⟨a1, a2⟩ := HA.out
    clear HA
    by_cases hy : k = l.length
    rotate_left
    · have hk : k < l.length := by omega
      have HK := Lib.hid (And.intro hk trivial)
      have t6 : decide ((k : Int) < (l.length : Int)) = true := decide_eq_true (by omega)
      have t6n : decide (k < l.length) = true := decide_eq_true (by omega)
      clear hy
      have hkp : k < c.parts.length := by rw [← HLL.out]; exact hk
      have hlk : c.parts[k].num = l[k] := by have h := hL.out; subst h; simp
      have HLK := Lib.hid hlk
      clear hlk
      have HKP := Lib.hid (And.intro hkp trivial)
      have hk1 : k + 1 ≤ 1000000 := by omega
      have HK1 := Lib.hid hk1
      clear hk1
      go_upto_region 9 with (fail)
      obtain ⟨yab, yao, rfl⟩ := Rw.addr (EL.out.fc 3 rfl) (by omega)
      have E8 : Hid (Env (fun _ => False) w ((w5.heap.size, 57, [.slice xna 1 xnk, .slice xra 1 xrk, .slice va k vk]) :: (w.heap.size, 57, [.slice none 0 0, .slice none 0 0, .slice none 0 0]) :: sg) [.ce yab (yao + k) (.int .i64 (l[k] : Nat)), .gn (gCl d hs (c.parts.take k)), .rw (.slice xra 1 xrk) 1 1 (wd Rx), .rw (.slice xna 1 xnk) 1 1 (wd Nx), .rw (.slice (some ⟨yab, yao, none⟩) l.length yk) l.length 1 (ncl l)] _) := Lib.hid (EL.out.elN 3 rfl rfl (k) hk)
      clear EL
      have w90 := (E8.out.fc 0 rfl).2
      have KC := IH.out c.parts[k] (hl.out.below E8.out.bel) (ki.out k hkp)
      rw [HLK.out] at KC
      have KCH := Lib.hid KC
      clear KC
      go_wp2_with fail
      refine (KCH.out).mono ?_
      rintro e w6 ⟨⟨una, unk, ura, urk, uza, uzk, rfl, uh⟩, hb⟩
      have E9 := Lib.hid (E8.out.got (E8.out.below hb) (.gn (gCt d c.parts[k] (.slice una 1 unk) (.slice ura 1 urk) (.slice uza c.parts[k].parts.length uzk))) (Lib.hid (ctGe uh.out)).out)
      clear w90 E8 hb
      clear KCH
      have E10 : Hid (Env (fun _ => False) w ((w6.heap.size, 57, [.slice una 1 unk, .slice ura 1 urk, .slice uza c.parts[k].parts.length uzk]) :: (w5.heap.size, 57, [.slice xna 1 xnk, .slice xra 1 xrk, .slice va k vk]) :: (w.heap.size, 57, [.slice none 0 0, .slice none 0 0, .slice none 0 0]) :: sg) [.gn (gCt d c.parts[k] (.slice una 1 unk) (.slice ura 1 urk) (.slice uza c.parts[k].parts.length uzk)), .ce yab (yao + k) (.int .i64 (l[k] : Nat)), .gn (gCl d hs (c.parts.take k)), .rw (.slice xra 1 xrk) 1 1 (wd Rx), .rw (.slice xna 1 xnk) 1 1 (wd Nx), .rw (.slice (some ⟨yab, yao, none⟩) l.length yk) l.length 1 (ncl l)] _) := Lib.hid ((E9.out.push 57 [.slice una 1 unk, .slice ura 1 urk, .slice uza c.parts[k].parts.length uzk] (w6.heap.size) (by simp)))
      have b1 := E10.out.bx 1 rfl
      have c1_2 := b1.cell 2 rfl
      clear b1
      have b2 := E10.out.bx 0 rfl
      have c2_0 := b2.cell 0 rfl
      have c2_1 := b2.cell 1 rfl
      have c2_2 := b2.cell 2 rfl
      clear b2
      have E11 : Hid (Env (fun _ => False) w ((w6.heap.size + 1, 57, [.slice una 1 unk, .slice ura 1 urk, .slice uza c.parts[k].parts.length uzk]) :: (w6.heap.size, 57, [.slice una 1 unk, .slice ura 1 urk, .slice uza c.parts[k].parts.length uzk]) :: (w5.heap.size, 57, [.slice xna 1 xnk, .slice xra 1 xrk, .slice va k vk]) :: (w.heap.size, 57, [.slice none 0 0, .slice none 0 0, .slice none 0 0]) :: sg) [.gn (gCt d c.parts[k] (.slice una 1 unk) (.slice ura 1 urk) (.slice uza c.parts[k].parts.length uzk)), .ce yab (yao + k) (.int .i64 (l[k] : Nat)), .gn (gCl d hs (c.parts.take k)), .rw (.slice xra 1 xrk) 1 1 (wd Rx), .rw (.slice xna 1 xnk) 1 1 (wd Nx), .rw (.slice (some ⟨yab, yao, none⟩) l.length yk) l.length 1 (ncl l)] _) := Lib.hid ((E10.out.push 57 [.slice una 1 unk, .slice ura 1 urk, .slice uza c.parts[k].parts.length uzk] (w6.heap.size + 1) (by simp)))
      go_wp2_with (at_builtin; refine wpl_app1 (c := 1) tiC rfl _ _ rfl E11.out (A := [(w6.heap.size + 1, 57, [.slice una 1 unk, .slice ura 1 urk, .slice uza c.parts[k].parts.length uzk]), (w6.heap.size, 57, [.slice una 1 unk, .slice ura 1 urk, .slice uza c.parts[k].parts.length uzk]), (w5.heap.size, 57, [.slice xna 1 xnk, .slice xra 1 xrk, .slice va k vk]), (w.heap.size, 57, [.slice none 0 0, .slice none 0 0, .slice none 0 0])]) (sg := sg) (B' := []) (F := ((w6.heap.size + 1, 57, [.slice una 1 unk, .slice ura 1 urk, .slice uza c.parts[k].parts.length uzk]) :: (w6.heap.size, 57, [.slice una 1 unk, .slice ura 1 urk, .slice uza c.parts[k].parts.length uzk]) :: (w5.heap.size, 57, [.slice xna 1 xnk, .slice xra 1 xrk, .slice va k vk]) :: (w.heap.size, 57, [.slice none 0 0, .slice none 0 0, .slice none 0 0]) :: sg)) (n := k) (by simp) hO.out.1 rfl rfl (SrcN.box (E11.out.bx 0 rfl) rfl (by intro u hu; simp at hu; rcases hu with rfl | rfl | rfl <;> rfl)) HK1.out ?_)
      intro tg tp tc w7 tH tT tE
      have tO : Hid (OS 57 3 [(tg, 57, tc)] tc (.slice (some ⟨tg, 0, none⟩) (k + 1) tp) (k + 1)) := Lib.hid (.inr ⟨tg, tp, rfl, rfl, tH.out.1, tH.out.2.1, tH.out.2.2⟩)
      have tK : Hid (tc.take ((k + 1) * 3) = hs ++ [.slice una 1 unk, .slice ura 1 urk, .slice uza c.parts[k].parts.length uzk]) := Lib.hid (by have h := tT.out; rw [hO.out.2] at h; exact h)
      have E12 : Hid (Env (fun _ => False) w ((w6.heap.size + 1, 57, [.slice una 1 unk, .slice ura 1 urk, .slice uza c.parts[k].parts.length uzk]) :: (w6.heap.size, 57, [.slice una 1 unk, .slice ura 1 urk, .slice uza c.parts[k].parts.length uzk]) :: (w5.heap.size, 57, [.slice xna 1 xnk, .slice xra 1 xrk, .slice va k vk]) :: (w.heap.size, 57, [.slice none 0 0, .slice none 0 0, .slice none 0 0]) :: [(tg, 57, tc)]) [.gn (gCl d (hs ++ [.slice una 1 unk, .slice ura 1 urk, .slice uza c.parts[k].parts.length uzk]) (c.parts.take (k + 1))), .gn (gCt d c.parts[k] (.slice una 1 unk) (.slice ura 1 urk) (.slice uza c.parts[k].parts.length uzk)), .ce yab (yao + k) (.int .i64 (l[k] : Nat)), .gn (gCl d hs (c.parts.take k)), .rw (.slice xra 1 xrk) 1 1 (wd Rx), .rw (.slice xna 1 xnk) 1 1 (wd Nx), .rw (.slice (some ⟨yab, yao, none⟩) l.length yk) l.length 1 (ncl l)] w7) := Lib.hid (Env.cast (tE.out.note (.gn (gCl d (hs ++ [.slice una 1 unk, .slice ura 1 urk, .slice uza c.parts[k].parts.length uzk]) (c.parts.take (k + 1)))) (by rw [List.take_add_one, List.getElem?_eq_getElem HKP.out.1]; exact gCl.app (tE.out.fc 2 rfl) (tE.out.fc 0 rfl))) (by simp))
      clear c1_2 c2_0 c2_1 c2_2 E9 E10 E11 tE tH tT
      have b3 := E12.out.bx 2 rfl
      have c3_2 := b3.cell 2 rfl
      have f3_2 := b3.frozen 2
      clear b3
      have E13 : Hid (Env (fun _ => False) w ((w6.heap.size + 1, 57, [.slice una 1 unk, .slice ura 1 urk, .slice uza c.parts[k].parts.length uzk]) :: (w6.heap.size, 57, [.slice una 1 unk, .slice ura 1 urk, .slice uza c.parts[k].parts.length uzk]) :: (w5.heap.size, 57, [.slice xna 1 xnk, .slice xra 1 xrk, .slice (some ⟨tg, 0, none⟩) (k + 1) tp]) :: (w.heap.size, 57, [.slice none 0 0, .slice none 0 0, .slice none 0 0]) :: [(tg, 57, tc)]) [.gn (gCl d (hs ++ [.slice una 1 unk, .slice ura 1 urk, .slice uza c.parts[k].parts.length uzk]) (c.parts.take (k + 1))), .gn (gCt d c.parts[k] (.slice una 1 unk) (.slice ura 1 urk) (.slice uza c.parts[k].parts.length uzk)), .ce yab (yao + k) (.int .i64 (l[k] : Nat)), .gn (gCl d hs (c.parts.take k)), .rw (.slice xra 1 xrk) 1 1 (wd Rx), .rw (.slice xna 1 xnk) 1 1 (wd Nx), .rw (.slice (some ⟨yab, yao, none⟩) l.length yk) l.length 1 (ncl l)] _) := Lib.hid ((E12.out.set 2 2 (.slice (some ⟨tg, 0, none⟩) (k + 1) tp) rfl))
      have hZ := E13.out.drop.drop
      have EZ : Hid (Env (fun _ => False) w ((w5.heap.size, 57, [.slice xna 1 xnk, .slice xra 1 xrk, .slice (some ⟨tg, 0, none⟩) (k + 1) tp]) :: (w.heap.size, 57, [.slice none 0 0, .slice none 0 0, .slice none 0 0]) :: [(tg, 57, tc)]) [.gn (gCl d (hs ++ [.slice una 1 unk, .slice ura 1 urk, .slice uza c.parts[k].parts.length uzk]) (c.parts.take (k + 1))), .rw (.slice xra 1 xrk) 1 1 (wd Rx), .rw (.slice xna 1 xnk) 1 1 (wd Nx), .rw (.slice (some ⟨yab, yao, none⟩) l.length yk) l.length 1 (ncl l)] _) := Lib.hid ⟨hZ.bel, hZ.box, ⟨hZ.fc 0 rfl, ⟨hZ.fc 4 rfl, ⟨hZ.fc 5 rfl, ⟨hZ.fc 6 rfl, trivial⟩⟩⟩⟩⟩
      clear hZ
      go_wp2
      go_roundg (l.length - (k + 1))
      case rel => exact ⟨k + 1, [(tg, 57, tc)], tc, some ⟨tg, 0, none⟩, tp, _, rfl, EZ, Lib.hid ⟨tO.out, tK.out⟩, Lib.hid ⟨by have := HK.out.1; omega, rfl⟩⟩
      case measure => have := HK.out.1; omega
    have t6 : decide ((k : Int) < (l.length : Int)) = false := decide_eq_false (by omega)
    have t6n : decide (k < l.length) = false := decide_eq_false (by omega)
    have HE : Hid (k = c.parts.length) := Lib.hid (by rw [hy, HLL.out])
    clear hy
    have b1 := EL.out.bx 0 rfl
    have c1_0 := b1.cell 0 rfl
    have c1_1 := b1.cell 1 rfl
    have c1_2 := b1.cell 2 rfl
    clear b1
    have b2 := EL.out.bx 1 rfl
    have c2_0 := b2.cell 0 rfl
    have c2_1 := b2.cell 1 rfl
    have c2_2 := b2.cell 2 rfl
    have f2_0 := b2.frozen 0
    have f2_1 := b2.frozen 1
    have f2_2 := b2.frozen 2
    clear b2
    go_wp2
    have E8 : Hid (Env (fun _ => False) w ((w5.heap.size, 57, [.slice xna 1 xnk, .slice xra 1 xrk, .slice va k vk]) :: (w.heap.size, 57, [.slice xna 1 xnk, .slice xra 1 xrk, .slice va k vk]) :: sg) [.gn (gCl d hs (c.parts.take k)), .rw (.slice xra 1 xrk) 1 1 (wd Rx), .rw (.slice xna 1 xnk) 1 1 (wd Nx), .rw (.slice ya l.length yk) l.length 1 (ncl l)] _) := Lib.hid ((((EL.out.set 1 0 (.slice xna 1 xnk) rfl).set 1 1 (.slice xra 1 xrk) rfl).set 1 2 (.slice va k vk) rfl))
    have hfin := E8.out
    have q0 := (hfin.bx 1 rfl).cell 0 rfl
    have q1 := (hfin.bx 1 rfl).cell 1 rfl
    have q2 := (hfin.bx 1 rfl).cell 2 rfl
    have hout := Env.outCt2 hfin hO.out (by intro p hp; simp [hp]) HE.out hN.out hR.out 0 rfl 2 rfl 1 rfl
    exact bodyPost_ret (v := .tuple #[.agg #[.slice xna 1 xnk, .slice xra 1 xrk, .slice va k vk], .int .i64 0]) (by simp [results, Tryz.results31, go_sem, q0, q1, q2]) rfl ⟨⟨xna, xnk, xra, xrk, va, vk, by rw [HE.out], Lib.hid (by rw [← HE.out]; exact hout)⟩, hfin.bel⟩
theorem Certify_g : ∀ d, CertH d
  | 0, c, _, _, h => by cases h
  | d + 1, c, w, hl, h => Certify_s d c c.num c.root _ hl (Certify_g d) rfl rfl rfl h.1 h.2.1 h.2.2
end Go.Proofs.YtikopkkebdobdaaGreatDoor

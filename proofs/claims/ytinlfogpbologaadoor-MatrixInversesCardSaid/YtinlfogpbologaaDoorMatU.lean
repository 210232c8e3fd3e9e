/- specieref14: Reduce. -/
import Derived.Test.YtinlfogpbologaaDoorMatO
namespace Go.Proofs.YtinlfogpbologaaDoor
open Go.RowKit DivMath WordMath
set_option linter.unusedVariables false
set_option linter.unusedSimpArgs false
theorem rinv_c (q a : Nat) (w : World) (ha : (a : Int) < (q : Int)) (hq : 2 ≤ q) (hm : (q : Int) < Top) {i : Nat} (hi : invN q a = i) :
    Calls Tryd.prog 115 #[.int .i64 a, .int .i64 q] w fun e w' => (∃ b : Bool, e = .returned (.tuple #[.int .i64 (i : Nat), .bool b])) ∧ Below w.heap.size w w' := by
  by_cases h : Nat.gcd a q = 1
  · refine (refInverse_ok a q w ha hm h).mono ?_
    rintro e w' ⟨⟨r, hr, rfl⟩, n, rfl⟩
    have e2 := invN_eq hr.out.1 hr.out.2
    rw [hi] at e2
    subst e2
    exact ⟨⟨_, rfl⟩, below_drewN (Below.refl _ _) _⟩
  · refine (refInverse_none a q w ha hm h).mono ?_
    rintro e w' ⟨rfl, n, rfl⟩
    have e2 := invN_none hq h
    rw [hi] at e2
    subst e2
    exact ⟨⟨_, rfl⟩, below_drewN (Below.refl _ _) _⟩
section
variable {O : List (List Nat)} {a c i q : Nat} {p : List Nat}
theorem piv_none (h : ∀ j, a ≤ j → j < O.length → (O.getD j []).getD c 0 = 0) : pivN O a c = none := by
  unfold pivN
  rw [List.findIdx?_eq_none_iff]
  intro r hr
  obtain ⟨j, hj, rfl⟩ := List.getElem_of_mem hr
  rw [List.length_drop] at hj
  have h1 := h (a + j) (by omega) (by omega)
  rw [List.getElem_drop, ← getL_elem (by omega), h1]; rfl
theorem piv_some (hi : i < O.length) (ha : a ≤ i) (hne : (O.getD i []).getD c 0 ≠ 0) (hz : ∀ j, a ≤ j → j < i → (O.getD j []).getD c 0 = 0) : pivN O a c = some (i - a) := by
  unfold pivN
  rw [List.findIdx?_eq_some_iff_getElem]
  refine ⟨by rw [List.length_drop]; omega, ?_, fun j hj => ?_⟩
  · have e : (O.drop a)[i - a]'(by rw [List.length_drop]; omega) = O.getD i [] := by
      rw [List.getElem_drop, getL_elem hi]; congr 1; omega
    rw [e]; simpa using hne
  · have e : (O.drop a)[j]'(by rw [List.length_drop]; omega) = O.getD (a + j) [] := by
      rw [List.getElem_drop, getL_elem (by omega)]
    rw [e, hz (a + j) (by omega) (by omega)]; simp
theorem swap_at (ha : a < O.length) (hi : i < O.length) : (swapL O a i).getD a [] = O[i] := by
  refine getD_of ?_
  rw [swapL_of (List.getElem?_eq_getElem ha) (List.getElem?_eq_getElem hi), List.getElem?_set]
  by_cases e : i = a
  · subst e; rw [if_pos rfl, if_pos (by rw [List.length_set]; exact hi)]
  · rw [if_neg e, List.getElem?_set_self ha]
theorem red_row (ha : a < O.length) (hi : i < O.length) : pivR q (swapL O a i) a c = sclN q O[i] (invN q (O[i].getD c 0)) := by
  unfold pivR
  rw [swap_at ha hi]
theorem swap_set (ha : a < O.length) (hi : i < O.length) : (O.set i O[a]).set a p = (swapL O a i).set a p := by
  rw [swapL_of (List.getElem?_eq_getElem ha) (List.getElem?_eq_getElem hi)]
  by_cases e : a = i
  · subst e; rw [List.set_set, List.set_set, List.set_set]
  · rw [List.set_comm _ _ e, List.set_set]
end
section
variable {D0 : Nat → Prop} {w W : World} {F : List Bx} {G : List Fct} {hs x : List Value} {O : List (List Nat)} {i : Nat}
theorem Env.grow (E : Env D0 w F G W) (k : Nat) (e : G[k]? = some (.gn (gRows hs O))) (hi : i < O.length) : ∃ a c, hs[i]? = some (.slice a O[i].length c) ∧ Env D0 w F (.rw (.slice a O[i].length c) O[i].length 1 (ncl O[i]) :: G) W := by
  have h : (gRows hs O).at_ W (DF D0 w.heap.size F) := E.fc k e
  obtain ⟨a, c, h1, h2⟩ := gRows.row h hi
  exact ⟨a, c, h1, E.note _ h2⟩
theorem hs_app {v : Value} (h : hs[i]? = some v) : (hs ++ x)[i]? = some v := by
  rw [List.getElem?_append_left (List.getElem?_eq_some_iff.1 h).1]; exact h
end
/-- the copy, as one box of headers -/
theorem rCopyB_c {D : Nat → Prop} (L : List (List Nat)) {xa : Option Addr} {xk : Nat} {w : World} (hx : Fct.at w D (.mx (.slice xa L.length xk) (L.map nl))) (hL : L.length ≤ 1000) (hr0 : ∀ r ∈ L, r.length ≤ 1000) (h0 : 0 < L.length) :
    Calls Tryd.prog 114 #[.slice xa L.length xk] w fun e w' => (∃ g hs x cap, e = .returned (.slice (some ⟨g, 0, none⟩) L.length cap) ∧ Hid (hs.length = L.length ∧ L.length ≤ cap ∧ cap ≤ 9223372036854775807 ∧ (hs ++ x).length = cap) ∧ HeldF w.heap.size [(g, 22, hs ++ x)] w' ∧ Hid ((gRows hs L).at_ w' (fun b => (D b ∨ w.heap.size ≤ b) ∧ ∀ p ∈ [(g, 22, hs ++ x)], p.1 ≠ b))) ∧ Below w.heap.size w w' :=
  (rCopy_c L hx hL hr0).mono fun e w' ⟨⟨sg, cs, va, vk, hs, h1, h2, h3, h4⟩, hb⟩ => by
    refine ⟨?_, hb⟩
    have hl := h2.out.2.1
    have ht := h2.out.2.2
    rcases h2.out.1 with ⟨_, _, _, hz⟩ | ⟨g, cap, e1, e2, k1, k2, k3⟩
    · omega
    · have e4 : cs = hs ++ cs.drop L.length := by rw [← ht, List.take_append_drop]
      rw [e4] at e1
      subst e1
      rw [e2] at h1
      exact ⟨g, hs, cs.drop L.length, cap, h1, Lib.hid ⟨hl, k1, k2, by rw [← e4, k3]; omega⟩, h3, h4⟩
/-- what Reduce hands back -/
def RetXR (D : Nat → Prop) (M : List (List Nat)) (P : List Nat) (e : Ending) (w' : World) : Prop := ∃ va vk pa pk, e = .returned (.tuple #[.slice va M.length vk, .slice pa P.length pk]) ∧ Hid (Mx w' D (.slice va M.length vk) (M.map nl)) ∧ Hid (Rw w' D (.slice pa P.length pk) P.length 1 (ncl P))
set_option maxRecDepth 100000 in
set_option maxHeartbeats 8000000 in
theorem rReduce_c {D : Nat → Prop} (q n cols : Nat) (L M : List (List Nat)) (P : List Nat) {xa : Option Addr} {xk : Nat} {w : World} (hx : Fct.at w D (.mx (.slice xa L.length xk) (L.map nl))) (hq20 : 2 ≤ q) (hqT0 : (q : Int) < Top) (hres0 : ResM q n L) (hcol0 : cols ≤ n) (hl1 : 1 ≤ L.length) (hl30 : L.length ≤ 30) (hn0 : n ≤ 100) (hR0 : redN q L cols = (M, P)) :
    Calls Tryd.prog 78 #[.int .i64 (q : Nat), .slice xa L.length xk, .int .i64 (cols : Nat)] w fun e w' => RetXR (fun b => D b ∨ w.heap.size ≤ b) M P e w' ∧ Below w.heap.size w w' := by
  have E0 : Hid (Env D w [] [.mx (.slice xa L.length xk) (L.map nl)] w) := Lib.hid ((Env.start D w).arg (.mx (.slice xa L.length xk) (L.map nl)) hx)
  clear hx
  go_enter Tryd.func78, Tryd.ntmps78
  have hq2 := Lib.hid hq20
  have hqT := Lib.hid hqT0
  have hres := Lib.hid hres0
  have hcol := Lib.hid hcol0
  have hn := Lib.hid hn0
  have hR := Lib.hid hR0
  clear hq20 hqT0 hres0 hcol0 hn0 hR0
  have hq : Hid (0 < q) := Lib.hid (by have := hq2.out; omega)
  have HLR : Hid (∀ r ∈ L, r.length ≤ 1000) := Lib.hid (fun r hr => by rw [(hres.out r hr).1]; have := hn.out; omega)
  go_wp2_with fail
  refine (rCopyB_c L (E0.out.fc 0 rfl) (by omega) HLR.out (by omega)).mono ?_
  rintro e w1 ⟨⟨g, hs0, x, cap, rfl, gH, gF, gG⟩, hb⟩
  have E1 : Hid (Env D w [(g, 22, hs0 ++ x)] [.gn (gRows hs0 L), .mx (.slice xa L.length xk) (L.map nl)] w1) := Lib.hid ((E0.out.gotSegF (E0.out.gotSeg hb gF) (.gn (gRows hs0 L)) gG.out).cast (by simp))
  clear E0 hb
  go_wp2_with fail
  have E2 : Hid (Env D w [(g, 22, (hs0 ++ x))] [.gn (gRows hs0 L), .mx (.slice xa L.length xk) (L.map nl)] _) := Lib.hid (E1.out.cast (by first | rfl | simp))
  clear E1
  have E3 : Hid (Env D w [(g, 22, (hs0 ++ x))] [.gn (gRows hs0 L)] _) := Lib.hid (by have hZ := E2.out; exact ⟨hZ.bel, hZ.box, ⟨hZ.fc 0 rfl, trivial⟩⟩)
  clear E2
  go_loopg [9, 8] (cols) (fun gk s9 s8 wr => ∃ (c : Nat) (hs : List Value) (O : List (List Nat)) (sg : List Bx) (cs : List Value) (va : Option Addr) (vk : Nat) (o : List Nat), s9 = .int .i64 (c : Int) ∧ s8 = .slice va o.length vk ∧ Hid (Env D w ((g, 22, (hs ++ x)) :: sg) [.gn (gRows hs O)] wr) ∧ Hid (OI sg cs (.slice va o.length vk) (nl o)) ∧ Hid ((c ≤ cols ∧ gk = cols - c) ∧ (O, o) = redN q L c ∧ hs.length = L.length))
  case atStart => exact ⟨0, hs0, L, [], [], none, 0, [], rfl, rfl, Lib.hid (E3.out.cast (by first | rfl | simp)), Lib.hid OI.nlnil, Lib.hid ⟨⟨Nat.zero_le _, rfl⟩, rfl, gH.out.1⟩⟩
  case round =>
    clear E3
    obtain ⟨c, hs, O, sg, cs, va, vk, o, rfl, rfl, EL, hO, HA⟩ := hrel
    obtain ⟨⟨a1, a2⟩, a3, a4⟩ := HA.out
    have HS := Lib.hid a3
    have HLH := Lib.hid a4
    clear a3 a4 HA
    have HRI : Hid (RedI q n L.length c (O, o)) := Lib.hid (by rw [HS.out]; exact redN_ok hq.out hres.out c)
    have HOL : Hid (O.length = L.length) := Lib.hid HRI.out.len
    have hoL : o.length ≤ L.length := HRI.out.few.1
    by_cases hy : c = cols
    · skip
      have t6 : decide ((c : Int) < (cols : Int)) = false := decide_eq_false (by omega)
      have t6n : decide (c < cols) = false := decide_eq_false (by omega)
      have HM : Hid (M = O ∧ P = o) := Lib.hid (by have h := HS.out; rw [hy, hR.out] at h; exact ⟨(congrArg Prod.fst h).symm, (congrArg Prod.snd h).symm⟩)
      clear hy
      have hbel := Lib.hid EL.out.bel
      go_wp2
      have E4 : Hid (Env D w [(g, 22, (hs ++ x))] [.rw (.slice va o.length vk) o.length 1 (ncl o), .gn (gRows hs O)] _) := Lib.hid (Env.cast (Env.freezeSeg (A := [(g, 22, (hs ++ x))]) (sg := sg) (B := []) (EL.out.cast (by simp)) hO.out) (by simp))
      refine bodyPost_ret (results_tmp2 rfl _ _ _) rfl ?_
      have EF := Env.freezeOM (A := []) (sg := [(g, 22, hs ++ x)]) (B := []) (E4.out.cast (by first | rfl | simp)) (OM.of (cap := cap) (by rw [HLH.out, HOL.out]) (by rw [HOL.out]; exact gH.out.2.1) gH.out.2.2.1 (by have h := gH.out.2.2.2; rw [List.length_append, gH.out.1] at h; rw [List.length_append, HLH.out]; exact h)) 1 rfl
      have h1 : Fct.at _ _ _ := EF.out 0 rfl
      have h2 : Fct.at _ _ _ := EF.out 1 rfl
      rw [HM.out.1, HM.out.2]
      exact ⟨⟨some ⟨g, 0, none⟩, cap, va, vk, by rw [HOL.out]; rfl, Lib.hid h1, Lib.hid h2⟩, hbel.out⟩
    have hc : c < cols := by omega
    have hc9 : c ≤ 100 := by have := hcol.out; have := hn.out; omega
    have t6 : decide ((c : Int) < (cols : Int)) = true := decide_eq_true (by omega)
    have t6n : decide (c < cols) = true := decide_eq_true (by omega)
    clear hy
    have HCN : Hid (c < n) := Lib.hid (by have := hcol.out; omega)
    go_wp2_with fail
    clear t6 t6n
    go_loopg [11] (L.length - o.length) (fun gk s11 wr => ∃ (i : Nat), s11 = .int .i64 (i : Int) ∧ Hid (Env D w ((g, 22, (hs ++ x)) :: sg) [.gn (gRows hs O)] wr) ∧ Hid ((o.length ≤ i ∧ i ≤ L.length ∧ gk = L.length - i) ∧ ∀ j, o.length ≤ j → j < i → (O.getD j []).getD c 0 = 0))
    case atStart => exact ⟨o.length, rfl, Lib.hid EL.out, Lib.hid ⟨⟨Nat.le_refl _, hoL, rfl⟩, fun j h1 h2 => absurd h2 (by omega)⟩⟩
    case round =>
      clear EL
      obtain ⟨i, rfl, EL, HA⟩ := hrel
      obtain ⟨⟨b1, b2, b3⟩, b4⟩ := HA.out
      have HZ := Lib.hid b4
      clear b4 HA
      by_cases hy : i = L.length
      · skip
        have t7 : decide ((i : Int) < (L.length : Int)) = false := decide_eq_false (by omega)
        have t7n : decide (i < L.length) = false := decide_eq_false (by omega)
        have e2 : ((i : Int) == (L.length : Int)) = true := beq_iff_eq.2 (by omega)
        have e2n : (i == L.length) = true := beq_iff_eq.2 hy
        have HPV : Hid (pivN O o.length c = none) := Lib.hid (piv_none (fun j h1 h2 => HZ.out j h1 (by rw [HOL.out] at h2; omega)))
        clear hy
        have EZ := Lib.hid EL.out
        go_wp2
        go_roundg (cols - (c + 1))
        case rel => exact ⟨c + 1, hs, O, sg, cs, va, vk, o, rfl, rfl, EZ, hO, Lib.hid ⟨⟨by omega, rfl⟩, by rw [redN, ← HS.out, redS_none HPV.out], HLH.out⟩⟩
        case measure => exact by omega
      have hi : i < L.length := by omega
      have t7 : decide ((i : Int) < (L.length : Int)) = true := decide_eq_true (by omega)
      have t7n : decide (i < L.length) = true := decide_eq_true (by omega)
      have hiI : (i : Int) < (L.length : Int) := by omega
      have e2 : ((i : Int) == (L.length : Int)) = false := beq_eq_false_iff_ne.2 (by omega)
      have e2n : (i == L.length) = false := beq_eq_false_iff_ne.2 hy
      clear hy
      have hiO : i < O.length := by rw [HOL.out]; exact hi
      have HRW : Hid (O[i].length = n ∧ ∀ y ∈ O[i], y < q) := Lib.hid (HRI.out.res _ (List.getElem_mem hiO))
      have hcr : c < O[i].length := by rw [HRW.out.1]; exact HCN.out
      have hcrI : (c : Int) < (O[i].length : Int) := by omega
      go_upto_region 8 with (fail)
      obtain ⟨ra, rk, rh0, re0⟩ := Env.grow EL.out 0 rfl hiO
      have rH := Lib.hid rh0
      have E4 : Hid (Env D w ((g, 22, (hs ++ x)) :: sg) [.rw (.slice ra O[i].length rk) O[i].length 1 (ncl O[i]), .gn (gRows hs O)] _) := Lib.hid re0
      clear EL re0 rh0
      obtain ⟨rab, rao, rfl⟩ := Rw.addr (E4.out.fc 0 rfl) (by omega)
      have E5 : Hid (Env D w ((g, 22, (hs ++ x)) :: sg) [.ce rab (rao + c) (.int .i64 (O[i][c] : Nat)), .rw (.slice (some ⟨rab, rao, none⟩) O[i].length rk) O[i].length 1 (ncl O[i]), .gn (gRows hs O)] _) := Lib.hid (E4.out.elN 0 rfl rfl (c) hcr)
      clear E4
      have v0 := (E5.out.fc 0 rfl).2
      have th1 : World.cell? _ ⟨g, i, none⟩ = some (.slice (some ⟨rab, rao, none⟩) O[i].length rk) := (E5.out.bx 0 rfl).cell (i) (hs_app rH.out)
      by_cases hz : O[i][c] = 0
      · skip
        have e3 : (((O[i][c] : Nat) : Int) == 0) = true := beq_iff_eq.2 (by omega)
        have e3n : (O[i][c] == 0) = true := beq_iff_eq.2 hz
        have HNZ : Hid (∀ j, o.length ≤ j → j < i + 1 → (O.getD j []).getD c 0 = 0) := Lib.hid (fun j h1 h2 => by by_cases e : j = i; (· rw [e, getL_elem hiO, getD_elem hcr]; exact hz); exact HZ.out j h1 (by omega))
        clear hz
        have EZ := Lib.hid ((E5.out.forget).forget)
        go_wp2
        go_roundg (L.length - (i + 1))
        case rel => exact ⟨i + 1, rfl, EZ, Lib.hid ⟨⟨by omega, by omega, rfl⟩, HNZ.out⟩⟩
        case measure => exact by omega
      have e3 : (((O[i][c] : Nat) : Int) == 0) = false := beq_eq_false_iff_ne.2 (by omega)
      have e3n : (O[i][c] == 0) = false := beq_eq_false_iff_ne.2 hz
      have HPV : Hid (pivN O o.length c = some (i - o.length)) := Lib.hid (piv_some hiO b1 (by rw [getL_elem hiO, getD_elem hcr]; exact hz) HZ.out)
      clear hz
      go_upto_region 11 with (fail)
      clear e2 e2n e3 e3n t7 t7n
      have haL : o.length < L.length := by omega
      have haLI : (o.length : Int) < (L.length : Int) := by omega
      have haO : o.length < O.length := by rw [HOL.out]; exact haL
      have th2 : World.cell? _ ⟨g, i, none⟩ = some (.slice (some ⟨rab, rao, none⟩) O[i].length rk) := (E5.out.bx 0 rfl).cell (i) (hs_app rH.out)
      go_upto_region 12 with (fail)
      obtain ⟨ta, tk, th0, te0⟩ := Env.grow E5.out 2 rfl haO
      have tH := Lib.hid th0
      have E6 : Hid (Env D w ((g, 22, (hs ++ x)) :: sg) [.rw (.slice ta O[o.length].length tk) O[o.length].length 1 (ncl O[o.length]), .ce rab (rao + c) (.int .i64 (O[i][c] : Nat)), .rw (.slice (some ⟨rab, rao, none⟩) O[i].length rk) O[i].length 1 (ncl O[i]), .gn (gRows hs O)] _) := Lib.hid te0
      clear v0 th1 th2 E5 te0 th0
      have th3 : World.cell? _ ⟨g, o.length, none⟩ = some (.slice ta O[o.length].length tk) := (E6.out.bx 0 rfl).cell (o.length) (hs_app tH.out)
      have th4 : World.cell? _ ⟨g, i, none⟩ = some (.slice (some ⟨rab, rao, none⟩) O[i].length rk) := (E6.out.bx 0 rfl).cell (i) (hs_app rH.out)
      have hihs : i < hs.length := by rw [HLH.out]; exact hi
      have HSI := Lib.hid (hs_app (x := x) rH.out)
      have bg := E6.out.bx 0 rfl
      have c1 := bg.cell (i) (HSI.out)
      have c2 := bg.frozen (i)
      clear bg
      have E7 : Hid (Env D w ((g, 22, (((hs ++ x)).set (i) (.slice ta O[o.length].length tk))) :: sg) [.rw (.slice ta O[o.length].length tk) O[o.length].length 1 (ncl O[o.length]), .ce rab (rao + c) (.int .i64 (O[i][c] : Nat)), .rw (.slice (some ⟨rab, rao, none⟩) O[i].length rk) O[i].length 1 (ncl O[i]), .gn (gRows hs O)] _) := Lib.hid ((E6.out.set 0 i (.slice ta O[o.length].length tk) rfl))
      have E8 : Hid (Env D w ((g, 22, (hs.set i (.slice ta O[o.length].length tk) ++ x)) :: sg) [.rw (.slice ta O[o.length].length tk) O[o.length].length 1 (ncl O[o.length]), .ce rab (rao + c) (.int .i64 (O[i][c] : Nat)), .rw (.slice (some ⟨rab, rao, none⟩) O[i].length rk) O[i].length 1 (ncl O[i]), .gn (gRows hs O)] _) := Lib.hid (by have h := E7.out; rw [show (hs ++ x).set i (.slice ta O[o.length].length tk) = hs.set i (.slice ta O[o.length].length tk) ++ x from List.set_append_left _ _ hihs] at h; exact h)
      go_upto_region 13 with (fail)
      obtain ⟨h1, hh1⟩ : ∃ v, hs.set (i) (.slice ta O[o.length].length tk) = v := ⟨_, rfl⟩
      obtain ⟨O1, hO1⟩ : ∃ v, O.set (i) (O[o.length]) = v := ⟨_, rfl⟩
      have Qh1 := Lib.hid hh1
      have QO1 := Lib.hid hO1
      have E9 : Hid (Env D w ((g, 22, (h1 ++ x)) :: sg) [.gn (gRows h1 O1), .rw (.slice ta O[o.length].length tk) O[o.length].length 1 (ncl O[o.length]), .ce rab (rao + c) (.int .i64 (O[i][c] : Nat)), .rw (.slice (some ⟨rab, rao, none⟩) O[i].length rk) O[i].length 1 (ncl O[i]), .gn (gRows hs O)] _) := Lib.hid (by have h := (E8.out.note (.gn (gRows (hs.set (i) (.slice ta O[o.length].length tk)) (O.set (i) (O[o.length])))) (gRows.set (E8.out.fc 3 rfl) (E8.out.fc 0 rfl))); rw [hh1, hO1] at h; exact h)
      clear hh1 hO1
      clear th3 th4 c1 c2 E6 E7 E8
      have HVQ : Hid (((O[i][c] : Nat) : Int) < (q : Int)) := Lib.hid (Int.ofNat_lt.2 (HRW.out.2 _ (List.getElem_mem hcr)))
      obtain ⟨iv, hiv⟩ : ∃ v, invN q O[i][c] = v := ⟨_, rfl⟩
      have HIV := Lib.hid hiv
      have HIQ : Hid (iv < q) := Lib.hid (by rw [← hiv]; exact invN_lt hq.out)
      clear hiv
      have HRL : Hid (O[i].length ≤ 1000) := Lib.hid (by rw [HRW.out.1]; have := hn.out; omega)
      have z5 := (E9.out.fc 2 rfl).2
      go_wp2_with fail
      refine (rinv_c q O[i][c] _ HVQ.out hq2.out hqT.out HIV.out).mono ?_
      rintro e w2 ⟨⟨ib, rfl⟩, hb⟩
      have E10 : Hid (Env D w ((g, 22, (h1 ++ x)) :: sg) [.gn (gRows h1 O1), .rw (.slice ta O[o.length].length tk) O[o.length].length 1 (ncl O[o.length]), .ce rab (rao + c) (.int .i64 (O[i][c] : Nat)), .rw (.slice (some ⟨rab, rao, none⟩) O[i].length rk) O[i].length 1 (ncl O[i]), .gn (gRows hs O)] w2) := Lib.hid (E9.out.below hb)
      clear z5 E9 hb
      go_upto_region 14 with (fail)
      go_wp2_with fail
      refine (rscaled_c q iv O[i] (E10.out.fc 3 rfl) hq.out hqT.out HIQ.out HRW.out.2 HRL.out).mono ?_
      rintro e w3 ⟨⟨sa, sk, rfl, sH⟩, hb⟩
      have E11 : Hid (Env D w ((g, 22, (h1 ++ x)) :: sg) [.rw (.slice sa (sclN q O[i] iv).length sk) (sclN q O[i] iv).length 1 (ncl (sclN q O[i] iv)), .gn (gRows h1 O1), .rw (.slice ta O[o.length].length tk) O[o.length].length 1 (ncl O[o.length]), .ce rab (rao + c) (.int .i64 (O[i][c] : Nat)), .rw (.slice (some ⟨rab, rao, none⟩) O[i].length rk) O[i].length 1 (ncl O[i]), .gn (gRows hs O)] w3) := Lib.hid (E10.out.got (E10.out.below hb) (.rw (.slice sa (sclN q O[i] iv).length sk) (sclN q O[i] iv).length 1 (ncl (sclN q O[i] iv))) (Lib.hid (Rw.ge sH.out)).out)
      clear E10 hb
      have HLH1 : Hid (h1.length = L.length) := Lib.hid (by rw [← Qh1.out, List.length_set]; exact HLH.out)
      have hah1 : o.length < h1.length := by rw [HLH1.out]; exact haL
      obtain ⟨xv, hxv⟩ : ∃ v, (h1 ++ x)[o.length]? = some v := ⟨_, hs_app (List.getElem?_eq_getElem hah1)⟩
      have bg := E11.out.bx 0 rfl
      have c1 := bg.cell (o.length) (hxv)
      have c2 := bg.frozen (o.length)
      clear bg
      clear hxv
      have E12 : Hid (Env D w ((g, 22, (((h1 ++ x)).set (o.length) (.slice sa (sclN q O[i] iv).length sk))) :: sg) [.rw (.slice sa (sclN q O[i] iv).length sk) (sclN q O[i] iv).length 1 (ncl (sclN q O[i] iv)), .gn (gRows h1 O1), .rw (.slice ta O[o.length].length tk) O[o.length].length 1 (ncl O[o.length]), .ce rab (rao + c) (.int .i64 (O[i][c] : Nat)), .rw (.slice (some ⟨rab, rao, none⟩) O[i].length rk) O[i].length 1 (ncl O[i]), .gn (gRows hs O)] _) := Lib.hid ((E11.out.set 0 (o.length) (.slice sa (sclN q O[i] iv).length sk) rfl))
      have E13 : Hid (Env D w ((g, 22, (h1.set (o.length) (.slice sa (sclN q O[i] iv).length sk) ++ x)) :: sg) [.rw (.slice sa (sclN q O[i] iv).length sk) (sclN q O[i] iv).length 1 (ncl (sclN q O[i] iv)), .gn (gRows h1 O1), .rw (.slice ta O[o.length].length tk) O[o.length].length 1 (ncl O[o.length]), .ce rab (rao + c) (.int .i64 (O[i][c] : Nat)), .rw (.slice (some ⟨rab, rao, none⟩) O[i].length rk) O[i].length 1 (ncl O[i]), .gn (gRows hs O)] _) := Lib.hid (by have h := E12.out; rw [show (h1 ++ x).set (o.length) (.slice sa (sclN q O[i] iv).length sk) = h1.set (o.length) (.slice sa (sclN q O[i] iv).length sk) ++ x from List.set_append_left _ _ hah1] at h; exact h)
      go_upto_region 15 with (fail)
      obtain ⟨h2, hh2⟩ : ∃ v, h1.set (o.length) (.slice sa (sclN q O[i] iv).length sk) = v := ⟨_, rfl⟩
      obtain ⟨O2, hO2⟩ : ∃ v, O1.set (o.length) ((sclN q O[i] iv)) = v := ⟨_, rfl⟩
      have Qh2 := Lib.hid hh2
      have QO2 := Lib.hid hO2
      have E14 : Hid (Env D w ((g, 22, (h2 ++ x)) :: sg) [.gn (gRows h2 O2), .rw (.slice sa (sclN q O[i] iv).length sk) (sclN q O[i] iv).length 1 (ncl (sclN q O[i] iv)), .gn (gRows h1 O1), .rw (.slice ta O[o.length].length tk) O[o.length].length 1 (ncl O[o.length]), .ce rab (rao + c) (.int .i64 (O[i][c] : Nat)), .rw (.slice (some ⟨rab, rao, none⟩) O[i].length rk) O[i].length 1 (ncl O[i]), .gn (gRows hs O)] _) := Lib.hid (by have h := (E13.out.note (.gn (gRows (h1.set (o.length) (.slice sa (sclN q O[i] iv).length sk)) (O1.set (o.length) ((sclN q O[i] iv))))) (gRows.set (E13.out.fc 1 rfl) (E13.out.fc 0 rfl))); rw [hh2, hO2] at h; exact h)
      clear hh2 hO2
      clear c1 c2 E11 E12 E13
      have HLH2 : Hid (h2.length = L.length) := Lib.hid (by rw [← Qh2.out, List.length_set]; exact HLH1.out)
      obtain ⟨Sw, hsw⟩ : ∃ v, swapL O o.length i = v := ⟨_, rfl⟩
      have HSW := Lib.hid hsw
      have HO2 : Hid (O2 = Sw.set o.length (pivR q Sw o.length c)) := Lib.hid (by rw [← QO2.out, ← QO1.out, ← hsw, swap_set haO hiO, red_row haO hiO, getD_elem hcr, HIV.out])
      have HSL : Hid (Sw.length = L.length) := Lib.hid (by rw [← hsw, swapL_len]; exact HOL.out)
      have HSR : Hid (ResM q n Sw) := Lib.hid (by rw [← hsw]; exact swapL_res HRI.out.res)
      clear hsw
      have HML : Hid ((elimL q Sw o.length c).length = (Sw.set o.length (pivR q Sw o.length c)).length) := Lib.hid (by rw [elimL_len, List.length_set])
      have haS : o.length < Sw.length := by rw [HSL.out]; exact haL
      have E15 : Hid (Env D w ((g, 22, (h2 ++ x)) :: sg) [.gn (gRows h2 O2)] _) := Lib.hid (by have hZ := E14.out; exact ⟨hZ.bel, hZ.box, ⟨hZ.fc 0 rfl, trivial⟩⟩)
      clear E14
      go_wp2_with fail
      go_loopg [15] (L.length) (fun gk s15 wr => ∃ (k : Nat) (hs3 : List Value) (O3 : List (List Nat)), s15 = .int .i64 (k : Int) ∧ Hid (Env D w ((g, 22, (hs3 ++ x)) :: sg) [.gn (gRows hs3 O3)] wr) ∧ Hid ((k ≤ L.length ∧ gk = L.length - k) ∧ O3 = mix (elimL q Sw o.length c) (Sw.set o.length (pivR q Sw o.length c)) k ∧ hs3.length = L.length))
      case atStart => exact ⟨0, h2, O2, rfl, Lib.hid E15.out, Lib.hid ⟨⟨Nat.zero_le _, rfl⟩, by rw [mix_zero]; exact HO2.out, HLH2.out⟩⟩
      case round =>
        clear E15
        obtain ⟨k, hs3, O3, rfl, EL, HA⟩ := hrel
        obtain ⟨⟨d1, d2⟩, d3, d4⟩ := HA.out
        have HE := Lib.hid d3
        have HL3 := Lib.hid d4
        clear d3 d4 HA
        have HOL3 : Hid (O3.length = L.length) := Lib.hid (by rw [HE.out, mix_len HML.out, elimL_len]; exact HSL.out)
        by_cases hy : k = L.length
        · skip
          have t8 : decide ((k : Int) < (L.length : Int)) = false := decide_eq_false (by omega)
          have t8n : decide (k < L.length) = false := decide_eq_false (by omega)
          have HFIN : Hid ((O3, o ++ [c]) = redN q L (c + 1)) := Lib.hid (by have e1 : O3 = elimL q Sw o.length c := (by rw [HE.out, hy]; exact mix_full HML.out (by rw [elimL_len, HSL.out]; exact Nat.le_refl _)); have e2 : redS q (O, o) c = (elimL q (swapL O o.length (o.length + (i - o.length))) o.length c, o ++ [c]) := redS_some HPV.out; rw [redN, ← HS.out, e2, show o.length + (i - o.length) = i from by omega, HSW.out, e1])
          clear hy
          have hob : o.length + 1 ≤ 1000000 := by omega
          go_upto_region 20 with (fail)
          have E16 : Hid (Env D w ((wr.heap.size, 3, [.int .i64 (c : Int)]) :: (g, 22, (hs3 ++ x)) :: sg) [.gn (gRows hs3 O3)] _) := Lib.hid ((EL.out.push 3 [.int .i64 (c : Int)] (wr.heap.size) (by simp)))
          go_wp2_with (at_builtin; refine wpl_app1 (c := 1) tiI rfl _ _ rfl E16.out (A := [(wr.heap.size, 3, [.int .i64 (c : Int)]), (g, 22, (hs3 ++ x))]) (sg := sg) (B' := []) (F := ((wr.heap.size, 3, [.int .i64 (c : Int)]) :: (g, 22, (hs3 ++ x)) :: sg)) (by simp) (hO.out.os (nl_len o)) rfl rfl (SrcN.int (E16.out.bx 0 rfl)) hob ?_)
          intro ng np nc w4 nH nT nE
          have nO := Lib.hid (OI.app (x := ((c : Nat) : Int)) (g' := ng) (cs' := nc) (cap' := np) hO.out (nl_len o) (by simpa using nH.out) (by simpa using nT.out))
          have E17 : Hid (Env D w ((wr.heap.size, 3, [.int .i64 (c : Int)]) :: (g, 22, (hs3 ++ x)) :: [(ng, 3, nc)]) [.gn (gRows hs3 O3)] w4) := Lib.hid (nE.out.cast (by simp))
          clear EL E16 nE nH nT hO
          have OZ : Hid (OI [(ng, 3, nc)] nc (.slice (some ⟨ng, 0, none⟩) (o ++ [c]).length np) (nl (o ++ [c]))) := Lib.hid (by rw [show nl (o ++ [c]) = nl o ++ [((c : Nat) : Int)] from by simp [nl], List.length_append, List.length_singleton]; exact nO.out)
          have EZ := Lib.hid (E17.out.drop)
          go_wp2
          go_roundg (cols - (c + 1))
          case rel => exact ⟨c + 1, hs3, O3, [(ng, 3, nc)], nc, some ⟨ng, 0, none⟩, np, o ++ [c], rfl, by simp, Lib.hid (EZ.out.cast (by first | rfl | simp)), OZ, Lib.hid ⟨⟨by omega, rfl⟩, HFIN.out, HL3.out⟩⟩
          case measure => exact by omega
        have hk : k < L.length := by omega
        have t8 : decide ((k : Int) < (L.length : Int)) = true := decide_eq_true (by omega)
        have t8n : decide (k < L.length) = true := decide_eq_true (by omega)
        have hkI : (k : Int) < (L.length : Int) := by omega
        have hkS : k < Sw.length := by rw [HSL.out]; exact hk
        clear hy
        by_cases he : k = o.length
        · skip
          have e4 : ((k : Int) != (o.length : Int)) = false := by rw [he]; simp
          have e4n : (k != o.length) = false := by rw [he]; simp
          have HNX : Hid (O3 = mix (elimL q Sw o.length c) (Sw.set o.length (pivR q Sw o.length c)) (k + 1)) := Lib.hid (by rw [HE.out]; exact half_skip haS hkS (.inl he))
          clear he
          have EZ := Lib.hid EL.out
          go_wp2
          go_roundg (L.length - (k + 1))
          case rel => exact ⟨k + 1, hs3, O3, rfl, EZ, Lib.hid ⟨⟨by omega, rfl⟩, HNX.out, HL3.out⟩⟩
          case measure => exact by omega
        have e4 : ((k : Int) != (o.length : Int)) = true := by rw [bne_iff_ne]; omega
        have e4n : (k != o.length) = true := by rw [bne_iff_ne]; exact he
        have HKE := Lib.hid he
        clear he
        have hkO : k < O3.length := by rw [HOL3.out]; exact hk
        have haO3 : o.length < O3.length := by rw [HOL3.out]; exact haL
        have HPK : Hid (O3[k] = Sw[k]) := Lib.hid (half_row haS hkS (by rw [← HE.out]; exact List.getElem?_eq_getElem hkO) HKE.out)
        have HPA : Hid (O3[o.length] = pivR q Sw o.length c) := Lib.hid (by have h := half_piv (q := q) (col := c) haS hkS; rw [← HE.out, List.getElem?_eq_getElem haO3] at h; exact Option.some.inj h)
        have HRK : Hid (O3[k].length = n ∧ ∀ y ∈ O3[k], y < q) := Lib.hid (by rw [HPK.out]; exact HSR.out _ (List.getElem_mem hkS))
        have HRA : Hid (O3[o.length].length = n ∧ ∀ y ∈ O3[o.length], y < q) := Lib.hid (by rw [HPA.out]; exact ⟨pivR_len HSR.out haS, by unfold pivR; exact sclN_lt hq.out⟩)
        have hck : c < O3[k].length := by rw [HRK.out.1]; exact HCN.out
        have hckI : (c : Int) < (O3[k].length : Int) := by omega
        have HRKL : Hid (O3[k].length ≤ 1000) := Lib.hid (by rw [HRK.out.1]; have := hn.out; omega)
        have HRKA : Hid (O3[k].length ≤ O3[o.length].length) := Lib.hid (by rw [HRK.out.1, HRA.out.1]; exact Nat.le_refl _)
        go_upto_region 19 with (fail)
        obtain ⟨pa, pk, ph0, pe0⟩ := Env.grow EL.out 0 rfl hkO
        have pH := Lib.hid ph0
        have E16 : Hid (Env D w ((g, 22, (hs3 ++ x)) :: sg) [.rw (.slice pa O3[k].length pk) O3[k].length 1 (ncl O3[k]), .gn (gRows hs3 O3)] _) := Lib.hid pe0
        clear EL pe0 ph0
        obtain ⟨pab, pao, rfl⟩ := Rw.addr (E16.out.fc 0 rfl) (by omega)
        have E17 : Hid (Env D w ((g, 22, (hs3 ++ x)) :: sg) [.ce pab (pao + c) (.int .i64 (O3[k][c] : Nat)), .rw (.slice (some ⟨pab, pao, none⟩) O3[k].length pk) O3[k].length 1 (ncl O3[k]), .gn (gRows hs3 O3)] _) := Lib.hid (E16.out.elN 0 rfl rfl (c) hck)
        clear E16
        have m0 := (E17.out.fc 0 rfl).2
        obtain ⟨ua, uk, uh0, ue0⟩ := Env.grow E17.out 2 rfl haO3
        have uH := Lib.hid uh0
        have E18 : Hid (Env D w ((g, 22, (hs3 ++ x)) :: sg) [.rw (.slice ua O3[o.length].length uk) O3[o.length].length 1 (ncl O3[o.length]), .ce pab (pao + c) (.int .i64 (O3[k][c] : Nat)), .rw (.slice (some ⟨pab, pao, none⟩) O3[k].length pk) O3[k].length 1 (ncl O3[k]), .gn (gRows hs3 O3)] _) := Lib.hid ue0
        clear m0 E17 ue0 uh0
        have hvq : ((O3[k][c] : Nat) : Int) < (q : Int) := Int.ofNat_lt.2 (HRK.out.2 _ (List.getElem_mem hck))
        have hq9 : (q : Int) ≤ 2305843009213693952 := by have := hqT.out; unfold Top at this; omega
        have hqp : 0 < q := hq.out
        have hq0n : ¬ (q = 0) := by omega
        have hw1 : wrap64 ((q : Int) - ((O3[k][c] : Nat) : Int)) = ((q - O3[k][c] : Nat) : Int) := by rw [IntWalk.wrap64_in _ (by omega)]; omega
        go_wp2_with fail
        have E19 : Hid (Env D w ((g, 22, (hs3 ++ x)) :: sg) [.rw (.slice ua O3[o.length].length uk) O3[o.length].length 1 (ncl O3[o.length]), .ce pab (pao + c) (.int .i64 (O3[k][c] : Nat)), .rw (.slice (some ⟨pab, pao, none⟩) O3[k].length pk) O3[k].length 1 (ncl O3[k]), .gn (gRows hs3 O3)] (wr.drew)) := Lib.hid E18.out.drew
        clear E18
        refine wp_regionU (S := fun w' => w'.cell? ⟨g, k, none⟩ = some (.slice (some ⟨pab, pao, none⟩) O3[k].length pk) ∧ w'.cell? ⟨pab, pao + c, none⟩ = some (.int .i64 (O3[k][c] : Nat)) ∧ w'.cell? ⟨g, o.length, none⟩ = some (.slice ua O3[o.length].length uk)) [24] (by kernel_rfl) (⟨(E19.out.bx 0 rfl).cell (k) (hs_app pH.out), (E19.out.fc 1 rfl).2, (E19.out.bx 0 rfl).cell (o.length) (hs_app uH.out)⟩) (fun hHeld => ?_)
        generalize wr.drew = w4 at *
        refine uTake (i := 0) (some 82) (v := ?_) rfl rfl (by kernel_rfl) (by kernel_rfl) (by kernel_rfl) (by kernel_rfl) (fun _ _ _ h => h) (by rfl) (by assumption) ?_ ?_
        rotate_left
        · (intro wS hSw; (try dsimp only at hSw); go_simp; try with_reducible rfl)
        try simp only [Act.put, List.setIfInBounds_toArray, List.set_cons_zero, List.set_cons_succ]
        refine uTake (i := 1) (some 83) (v := ?_) rfl rfl (by kernel_rfl) (by kernel_rfl) (by kernel_rfl) (by kernel_rfl) (fun _ _ _ h => h) (by rfl) (by assumption) ?_ ?_
        rotate_left
        · (intro wS hSw; (try dsimp only at hSw); go_simp; try with_reducible rfl)
        try simp only [Act.put, List.setIfInBounds_toArray, List.set_cons_zero, List.set_cons_succ]
        refine uTake (i := 2) (some 84) (v := ?_) rfl rfl (by kernel_rfl) (by kernel_rfl) (by kernel_rfl) (by kernel_rfl) (fun _ _ _ h => h) (by rfl) (by assumption) ?_ ?_
        rotate_left
        · (intro wS hSw; (try dsimp only at hSw); go_simp; try with_reducible rfl)
        try simp only [Act.put, List.setIfInBounds_toArray, List.set_cons_zero, List.set_cons_succ]
        refine uTake (i := 3) (some 85) (v := ?_) rfl rfl (by kernel_rfl) (by kernel_rfl) (by kernel_rfl) (by kernel_rfl) (fun _ _ _ h => h) (by rfl) (by assumption) ?_ ?_
        rotate_left
        · (intro wS hSw; (try dsimp only at hSw); go_simp; try with_reducible rfl)
        try simp only [Act.put, List.setIfInBounds_toArray, List.set_cons_zero, List.set_cons_succ]
        refine uTake (i := 4) (some 86) (v := ?_) rfl rfl (by kernel_rfl) (by kernel_rfl) (by kernel_rfl) (by kernel_rfl) (fun _ _ _ h => h) (by rfl) (by assumption) ?_ ?_
        rotate_left
        · (intro wS hSw; (try dsimp only at hSw); go_simp; try with_reducible rfl)
        try simp only [Act.put, List.setIfInBounds_toArray, List.set_cons_zero, List.set_cons_succ]
        refine uTake (i := 5) (some 87) (v := ?_) rfl rfl (by kernel_rfl) (by kernel_rfl) (by kernel_rfl) (by kernel_rfl) (fun _ _ _ h => h) (by rfl) (by assumption) ?_ ?_
        rotate_left
        · (intro wS hSw; (try dsimp only at hSw); go_simp; try with_reducible rfl)
        try simp only [Act.put, List.setIfInBounds_toArray, List.set_cons_zero, List.set_cons_succ]
        refine uTake (i := 6) (some 88) (v := ?_) rfl rfl (by kernel_rfl) (by kernel_rfl) (by kernel_rfl) (by kernel_rfl) (fun _ _ _ h => h) (by rfl) (by assumption) ?_ ?_
        rotate_left
        · (intro wS hSw; (try dsimp only at hSw); go_simp; try with_reducible rfl)
        try simp only [Act.put, List.setIfInBounds_toArray, List.set_cons_zero, List.set_cons_succ]
        refine uTake (i := 7) (some 89) (v := ?_) rfl rfl (by kernel_rfl) (by kernel_rfl) (by kernel_rfl) (by kernel_rfl) (fun _ _ _ h => h) (by rfl) (by assumption) ?_ ?_
        rotate_left
        · (intro wS hSw; (try dsimp only at hSw); go_simp; try with_reducible rfl)
        try simp only [Act.put, List.setIfInBounds_toArray, List.set_cons_zero, List.set_cons_succ]
        refine uTake (i := 8) (some 90) (v := ?_) rfl rfl (by kernel_rfl) (by kernel_rfl) (by kernel_rfl) (by kernel_rfl) (fun _ _ _ h => h) (by rfl) (by assumption) ?_ ?_
        rotate_left
        · (intro wS hSw; (try dsimp only at hSw); go_simp; try with_reducible rfl)
        try simp only [Act.put, List.setIfInBounds_toArray, List.set_cons_zero, List.set_cons_succ]
        refine uTake (i := 9) (some 91) (v := ?_) rfl rfl (by kernel_rfl) (by kernel_rfl) (by kernel_rfl) (by kernel_rfl) (fun _ _ _ h => h) (by rfl) (by assumption) ?_ ?_
        rotate_left
        · (intro wS hSw; (try dsimp only at hSw); go_simp; try with_reducible rfl)
        try simp only [Act.put, List.setIfInBounds_toArray, List.set_cons_zero, List.set_cons_succ]
        refine uTake (i := 10) (some 92) (v := ?_) rfl rfl (by kernel_rfl) (by kernel_rfl) (by kernel_rfl) (by kernel_rfl) (fun _ _ _ h => h) (by rfl) (by assumption) ?_ ?_
        rotate_left
        · (intro wS hSw; (try dsimp only at hSw); go_simp; try with_reducible rfl)
        try simp only [Act.put, List.setIfInBounds_toArray, List.set_cons_zero, List.set_cons_succ]
        refine uTake (i := 11) (some 93) (v := ?_) rfl rfl (by kernel_rfl) (by kernel_rfl) (by kernel_rfl) (by kernel_rfl) (fun _ _ _ h => h) (by rfl) (by assumption) ?_ ?_
        rotate_left
        · (intro wS hSw; (try dsimp only at hSw); go_simp; try with_reducible rfl)
        try simp only [Act.put, List.setIfInBounds_toArray, List.set_cons_zero, List.set_cons_succ]
        refine uTake (i := 12) (some 94) (v := ?_) rfl rfl (by kernel_rfl) (by kernel_rfl) (by kernel_rfl) (by kernel_rfl) (fun _ _ _ h => h) (by rfl) (by assumption) ?_ ?_
        rotate_left
        · (intro wS hSw; (try dsimp only at hSw); go_simp; try with_reducible rfl)
        try simp only [Act.put, List.setIfInBounds_toArray, List.set_cons_zero, List.set_cons_succ]
        refine uTake (i := 13) (some 95) (v := ?_) rfl rfl (by kernel_rfl) (by kernel_rfl) (by kernel_rfl) (by kernel_rfl) (fun _ _ _ h => h) (by rfl) (by assumption) ?_ ?_
        rotate_left
        · (intro wS hSw; (try dsimp only at hSw); go_simp; try with_reducible rfl)
        try simp only [Act.put, List.setIfInBounds_toArray, List.set_cons_zero, List.set_cons_succ]
        refine uTake (i := 14) (some 96) (v := ?_) rfl rfl (by kernel_rfl) (by kernel_rfl) (by kernel_rfl) (by kernel_rfl) (fun _ _ _ h => h) (by rfl) (by assumption) ?_ ?_
        rotate_left
        · (intro wS hSw; (try dsimp only at hSw); go_simp; try with_reducible rfl)
        try simp only [Act.put, List.setIfInBounds_toArray, List.set_cons_zero, List.set_cons_succ]
        refine uTake (i := 15) (some 97) (v := .int .i64 ((q - O3[k][c] : Nat) : Int)) rfl rfl (by kernel_rfl) (by kernel_rfl) (by kernel_rfl) (by kernel_rfl) (fun _ _ _ h => h) (by rfl) (by assumption) ?_ ?_
        · (intro wS hSw; (try dsimp only at hSw); go_simp; rw [IntKind.wrap_i64]; omega)
        try simp only [Act.put, List.setIfInBounds_toArray, List.set_cons_zero, List.set_cons_succ]
        refine uTake (i := 16) (some 98) (v := ?_) rfl rfl (by kernel_rfl) (by kernel_rfl) (by kernel_rfl) (by kernel_rfl) (fun _ _ _ h => h) (by rfl) (by assumption) ?_ ?_
        rotate_left
        · (intro wS hSw; (try dsimp only at hSw); go_simp; try with_reducible rfl)
        try simp only [Act.put, List.setIfInBounds_toArray, List.set_cons_zero, List.set_cons_succ]
        refine uTake (i := 17) (some 99) (v := .int .i64 (((q - O3[k][c]) % q : Nat) : Int)) rfl rfl (by kernel_rfl) (by kernel_rfl) (by kernel_rfl) (by kernel_rfl) (fun _ _ _ h => h) (by rfl) (by assumption) ?_ ?_
        · (intro wS hSw; (try dsimp only at hSw); go_simp; first | (rw [if_neg hq0n, Int.tmod_eq_emod_of_nonneg (Int.natCast_nonneg _)]) | (exact Int.tmod_eq_emod_of_nonneg (Int.natCast_nonneg _)))
        try simp only [Act.put, List.setIfInBounds_toArray, List.set_cons_zero, List.set_cons_succ]
        refine uTake (i := 18) (some 100) (v := ?_) rfl rfl (by kernel_rfl) (by kernel_rfl) (by kernel_rfl) (by kernel_rfl) (fun _ _ _ h => h) (by rfl) (by assumption) ?_ ?_
        rotate_left
        · (intro wS hSw; (try dsimp only at hSw); go_simp; try with_reducible rfl)
        try simp only [Act.put, List.setIfInBounds_toArray, List.set_cons_zero, List.set_cons_succ]
        refine uTake (i := 19) (some 101) (v := ?_) rfl rfl (by kernel_rfl) (by kernel_rfl) (by kernel_rfl) (by kernel_rfl) (fun _ _ _ h => h) (by rfl) (by assumption) ?_ ?_
        rotate_left
        · (intro wS hSw; (try dsimp only at hSw); go_simp; try with_reducible rfl)
        try simp only [Act.put, List.setIfInBounds_toArray, List.set_cons_zero, List.set_cons_succ]
        refine uTake (i := 20) (some 102) (v := ?_) rfl rfl (by kernel_rfl) (by kernel_rfl) (by kernel_rfl) (by kernel_rfl) (fun _ _ _ h => h) (by rfl) (by assumption) ?_ ?_
        rotate_left
        · (intro wS hSw; (try dsimp only at hSw); go_simp; try with_reducible rfl)
        try simp only [Act.put, List.setIfInBounds_toArray, List.set_cons_zero, List.set_cons_succ]
        refine uTake (i := 21) (some 103) (v := ?_) rfl rfl (by kernel_rfl) (by kernel_rfl) (by kernel_rfl) (by kernel_rfl) (fun _ _ _ h => h) (by rfl) (by assumption) ?_ ?_
        rotate_left
        · (intro wS hSw; (try dsimp only at hSw); go_simp; try with_reducible rfl)
        try simp only [Act.put, List.setIfInBounds_toArray, List.set_cons_zero, List.set_cons_succ]
        refine uReady (rs := [22]) (by kernel_rfl) (by simp) ?_
        refine ReadyU.cons rfl (fun KK hKK => ?_) ReadyU.nil
        go_simp
        refine (radded_c q ((q - O3[k][c]) % q) O3[k] O3[o.length] (E19.out.fc 2 rfl) (E19.out.fc 0 rfl) hq.out hqT.out (Nat.mod_lt _ hq.out) HRK.out.2 HRA.out.2 HRKL.out HRKA.out).mono ?_
        rintro e w5 ⟨⟨da, dk, rfl, dH⟩, hb⟩
        have E20 : Hid (Env D w ((g, 22, (hs3 ++ x)) :: sg) [.rw (.slice da (admN q O3[k] ((q - O3[k][c]) % q) O3[o.length]).length dk) (admN q O3[k] ((q - O3[k][c]) % q) O3[o.length]).length 1 (ncl (admN q O3[k] ((q - O3[k][c]) % q) O3[o.length])), .rw (.slice ua O3[o.length].length uk) O3[o.length].length 1 (ncl O3[o.length]), .ce pab (pao + c) (.int .i64 (O3[k][c] : Nat)), .rw (.slice (some ⟨pab, pao, none⟩) O3[k].length pk) O3[k].length 1 (ncl O3[k]), .gn (gRows hs3 O3)] w5) := Lib.hid (E19.out.got (E19.out.below hb) (.rw (.slice da (admN q O3[k] ((q - O3[k][c]) % q) O3[o.length]).length dk) (admN q O3[k] ((q - O3[k][c]) % q) O3[o.length]).length 1 (ncl (admN q O3[k] ((q - O3[k][c]) % q) O3[o.length]))) (Lib.hid (Rw.ge dH.out)).out)
        clear E19 hb
        (try dsimp only)
        clear hHeld
        refine hKK.out _ _ (⟨(E20.out.bx 0 rfl).cell (k) (hs_app pH.out), (E20.out.fc 2 rfl).2, (E20.out.bx 0 rfl).cell (o.length) (hs_app uH.out)⟩) (fun hHeld => ?_)
        clear hKK KK
        try simp only [Act.put, List.setIfInBounds_toArray, List.set_cons_zero, List.set_cons_succ]
        refine uTake (i := 23) (some 105) (v := ?_) rfl rfl (by kernel_rfl) (by kernel_rfl) (by kernel_rfl) (by kernel_rfl) (fun _ _ _ h => h) (by rfl) (by assumption) ?_ ?_
        rotate_left
        · (intro wS hSw; (try dsimp only at hSw); go_simp; try with_reducible rfl)
        try simp only [Act.put, List.setIfInBounds_toArray, List.set_cons_zero, List.set_cons_succ]
        have HCP := Lib.hid (hs_app (x := x) pH.out)
        have bg := E20.out.bx 0 rfl
        have c1 := bg.cell (k) (HCP.out)
        have c2 := bg.frozen (k)
        clear bg
        refine uReady (rs := [24]) (by kernel_rfl) (by simp) ?_
        refine ReadyU.consU (by kernel_rfl) rfl (fun KK hKK => ?_) ReadyU.nil
        go_simp
        have E21 : Hid (Env D w ((g, 22, ((hs3 ++ x).set (k) (.slice da (admN q O3[k] ((q - O3[k][c]) % q) O3[o.length]).length dk))) :: sg) [.rw (.slice da (admN q O3[k] ((q - O3[k][c]) % q) O3[o.length]).length dk) (admN q O3[k] ((q - O3[k][c]) % q) O3[o.length]).length 1 (ncl (admN q O3[k] ((q - O3[k][c]) % q) O3[o.length])), .rw (.slice ua O3[o.length].length uk) O3[o.length].length 1 (ncl O3[o.length]), .ce pab (pao + c) (.int .i64 (O3[k][c] : Nat)), .rw (.slice (some ⟨pab, pao, none⟩) O3[k].length pk) O3[k].length 1 (ncl O3[k]), .gn (gRows hs3 O3)] _) := Lib.hid ((E20.out.set 0 k (.slice da (admN q O3[k] ((q - O3[k][c]) % q) O3[o.length]).length dk) rfl))
        (try dsimp only)
        (try clear hHeld)
        refine hKK.out _ _ ?_
        clear hKK KK
        try simp only [Act.put, List.setIfInBounds_toArray, List.set_cons_zero, List.set_cons_succ]
        refine uDone (by kernel_rfl) ?_ _
        have hkh : k < hs3.length := by rw [HL3.out]; exact hk
        have E22 : Hid (Env D w ((g, 22, (hs3.set (k) (.slice da (admN q O3[k] ((q - O3[k][c]) % q) O3[o.length]).length dk) ++ x)) :: sg) [.rw (.slice da (admN q O3[k] ((q - O3[k][c]) % q) O3[o.length]).length dk) (admN q O3[k] ((q - O3[k][c]) % q) O3[o.length]).length 1 (ncl (admN q O3[k] ((q - O3[k][c]) % q) O3[o.length])), .rw (.slice ua O3[o.length].length uk) O3[o.length].length 1 (ncl O3[o.length]), .ce pab (pao + c) (.int .i64 (O3[k][c] : Nat)), .rw (.slice (some ⟨pab, pao, none⟩) O3[k].length pk) O3[k].length 1 (ncl O3[k]), .gn (gRows hs3 O3)] _) := Lib.hid (by have h := E21.out; rw [show (hs3 ++ x).set (k) (.slice da (admN q O3[k] ((q - O3[k][c]) % q) O3[o.length]).length dk) = hs3.set (k) (.slice da (admN q O3[k] ((q - O3[k][c]) % q) O3[o.length]).length dk) ++ x from List.set_append_left _ _ hkh] at h; exact h)
        obtain ⟨h4, hh4⟩ : ∃ v, hs3.set (k) (.slice da (admN q O3[k] ((q - O3[k][c]) % q) O3[o.length]).length dk) = v := ⟨_, rfl⟩
        obtain ⟨O4, hO4⟩ : ∃ v, O3.set (k) ((admN q O3[k] ((q - O3[k][c]) % q) O3[o.length])) = v := ⟨_, rfl⟩
        have Qh4 := Lib.hid hh4
        have QO4 := Lib.hid hO4
        have E23 : Hid (Env D w ((g, 22, (h4 ++ x)) :: sg) [.gn (gRows h4 O4), .rw (.slice da (admN q O3[k] ((q - O3[k][c]) % q) O3[o.length]).length dk) (admN q O3[k] ((q - O3[k][c]) % q) O3[o.length]).length 1 (ncl (admN q O3[k] ((q - O3[k][c]) % q) O3[o.length])), .rw (.slice ua O3[o.length].length uk) O3[o.length].length 1 (ncl O3[o.length]), .ce pab (pao + c) (.int .i64 (O3[k][c] : Nat)), .rw (.slice (some ⟨pab, pao, none⟩) O3[k].length pk) O3[k].length 1 (ncl O3[k]), .gn (gRows hs3 O3)] _) := Lib.hid (by have h := (E22.out.note (.gn (gRows (hs3.set (k) (.slice da (admN q O3[k] ((q - O3[k][c]) % q) O3[o.length]).length dk)) (O3.set (k) ((admN q O3[k] ((q - O3[k][c]) % q) O3[o.length]))))) (gRows.set (E22.out.fc 4 rfl) (E22.out.fc 0 rfl))); rw [hh4, hO4] at h; exact h)
        clear hh4 hO4
        clear c1 c2 E20 E21 E22
        have E24 : Hid (Env D w ((g, 22, (h4 ++ x)) :: sg) [.gn (gRows h4 O4)] _) := Lib.hid (by have hZ := E23.out; exact ⟨hZ.bel, hZ.box, ⟨hZ.fc 0 rfl, trivial⟩⟩)
        clear E23
        have HNX : Hid (O4 = mix (elimL q Sw o.length c) (Sw.set o.length (pivR q Sw o.length c)) (k + 1)) := Lib.hid (by rw [← QO4.out]; have e : (admN q O3[k] ((q - O3[k][c]) % q) O3[o.length]) = admN q Sw[k] ((q - Sw[k].getD c 0) % q) (pivR q Sw o.length c) := (by rw [← HPK.out, ← HPA.out, getD_elem hck]); rw [e, HE.out]; exact half_set haS hkS HKE.out)
        have HL4 : Hid (h4.length = L.length) := Lib.hid (by rw [← Qh4.out, List.length_set]; exact HL3.out)
        have EZ := Lib.hid E24.out
        go_wp2
        go_roundg (L.length - (k + 1))
        case rel => exact ⟨k + 1, h4, O4, rfl, EZ, Lib.hid ⟨⟨by omega, rfl⟩, HNX.out, HL4.out⟩⟩
        case measure => exact by omega
end Go.Proofs.YtinlfogpbologaaDoor

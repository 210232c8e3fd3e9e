/- lists of certificates: ContainsFunc by the closure of right. -/
import Derived.Test.YtinlfogpbologaaDoorPriO
namespace Go.Proofs.YtinlfogpbologaaDoor
open Go.RowKit DivMath WordMath
set_option linter.unusedVariables false
set_option linter.unusedSimpArgs false
/-- a factor's power of the root is not 1 -/
def PartOk (N R L M : Nat) : Prop := ∃ q S, L / M = q ∧ R ^ q % N = S ∧ One S ∧ One M ∧ One q ∧ S ≠ 1
/-- N's certificate is right: root R, L = N - 1, the parts' numbers -/
def Cok (N R L : Nat) (l : List Nat) : Prop := (One N ∧ One R ∧ One L) ∧ R < N ∧ 2 ≤ N ∧ N - 1 = L ∧ R ^ L % N = 1 ∧ l.foldl (· * ·) 1 = L ∧ ∀ M ∈ l, PartOk N R L M
set_option maxRecDepth 100000 in
set_option maxHeartbeats 1000000 in
theorem cidx0 {D : Nat → Prop} (Nx Rx Lx : Nat) {xna xra xza : Option Addr} {xnk xrk xzk : Nat} (g1 : Nat) (g2 : Nat) {la : Option Addr} {lk : Nat} {w : World} (hxn : Fct.at w D (.rw (.slice xna 1 xnk) 1 1 (wd Nx))) (hxr : Fct.at w D (.rw (.slice xra 1 xrk) 1 1 (wd Rx))) (hl : Fct.at w D (.rw (.slice la 1 lk) 1 1 (wd Lx))) (h1 : Fct.at w D (.ce g1 0 (.slice la 1 lk))) (h20 : Fct.at w D (.ce g2 0 (.slice xna 1 xnk))) (h21 : Fct.at w D (.ce g2 1 (.slice xra 1 xrk))) (h22 : Fct.at w D (.ce g2 2 (.slice xza 0 xzk))) (hN0 : One Nx) (hR0 : One Rx) (hL0 : One Lx) (hlt0 : Rx < Nx) :
    Calls Tryd.prog 168 #[.slice xza 0 xzk, .func (.func 151) #[] #[.pointer (some ⟨g1, 0, none⟩), .pointer (some ⟨g2, 0, none⟩)]] w fun e w' => e = .returned (.int .i64 (-1)) ∧ Below w.heap.size w w' := by
  have E0 : Hid (Env D w [] [.ce g2 2 (.slice xza 0 xzk), .ce g2 1 (.slice xra 1 xrk), .ce g2 0 (.slice xna 1 xnk), .ce g1 0 (.slice la 1 lk), .rw (.slice la 1 lk) 1 1 (wd Lx), .rw (.slice xra 1 xrk) 1 1 (wd Rx), .rw (.slice xna 1 xnk) 1 1 (wd Nx)] w) := Lib.hid ((((((((Env.start D w).arg (.rw (.slice xna 1 xnk) 1 1 (wd Nx)) hxn).arg (.rw (.slice xra 1 xrk) 1 1 (wd Rx)) hxr).arg (.rw (.slice la 1 lk) 1 1 (wd Lx)) hl).arg (.ce g1 0 (.slice la 1 lk)) h1).arg (.ce g2 0 (.slice xna 1 xnk)) h20).arg (.ce g2 1 (.slice xra 1 xrk)) h21).arg (.ce g2 2 (.slice xza 0 xzk)) h22)
  clear hxn hxr hl h1 h20 h21 h22
  go_enter Tryd.func168, Tryd.ntmps168
  have hN := Lib.hid hN0
  have hR := Lib.hid hR0
  have hL := Lib.hid hL0
  have hlt := Lib.hid hlt0
  clear hN0 hR0 hL0 hlt0
  go_wp2_with fail
  go_loopg [8] (0) (fun gk s8 wr => ∃ (k : Int), s8 = .int .i64 k ∧ Hid (Env D w [] [.ce g2 2 (.slice xza 0 xzk), .ce g2 1 (.slice xra 1 xrk), .ce g2 0 (.slice xna 1 xnk), .ce g1 0 (.slice la 1 lk), .rw (.slice la 1 lk) 1 1 (wd Lx), .rw (.slice xra 1 xrk) 1 1 (wd Rx), .rw (.slice xna 1 xnk) 1 1 (wd Nx)] wr) ∧ Hid ((0 ≤ k ∧ k ≤ 0) ∧ gk = 0 - k.toNat))
  case atStart => exact ⟨0, rfl, Lib.hid E0.out, Lib.hid ⟨by omega, rfl⟩⟩
  case round =>
    clear E0
    obtain ⟨k, rfl, EL, HA⟩ := hrel
    obtain ⟨a1, a2⟩ := HA.out
    clear HA
    have hk' : k = 0 := by omega
    clear a1
    rcases hk' with rfl
    · skip
      have hfin := Lib.hid EL.out.bel
      go_wp2
      go_ret
      exact ⟨rfl, hfin.out⟩
set_option maxRecDepth 100000 in
set_option maxHeartbeats 1000000 in
theorem ccon0 {D : Nat → Prop} (Nx Rx Lx : Nat) {xna xra xza : Option Addr} {xnk xrk xzk : Nat} (g1 : Nat) (g2 : Nat) {la : Option Addr} {lk : Nat} {w : World} (hxn : Fct.at w D (.rw (.slice xna 1 xnk) 1 1 (wd Nx))) (hxr : Fct.at w D (.rw (.slice xra 1 xrk) 1 1 (wd Rx))) (hl : Fct.at w D (.rw (.slice la 1 lk) 1 1 (wd Lx))) (h1 : Fct.at w D (.ce g1 0 (.slice la 1 lk))) (h20 : Fct.at w D (.ce g2 0 (.slice xna 1 xnk))) (h21 : Fct.at w D (.ce g2 1 (.slice xra 1 xrk))) (h22 : Fct.at w D (.ce g2 2 (.slice xza 0 xzk))) (hN0 : One Nx) (hR0 : One Rx) (hL0 : One Lx) (hlt0 : Rx < Nx) :
    Calls Tryd.prog 150 #[.slice xza 0 xzk, .func (.func 151) #[] #[.pointer (some ⟨g1, 0, none⟩), .pointer (some ⟨g2, 0, none⟩)]] w fun e w' => e = .returned (.bool false) ∧ Below w.heap.size w w' := by
  have E0 : Hid (Env D w [] [.ce g2 2 (.slice xza 0 xzk), .ce g2 1 (.slice xra 1 xrk), .ce g2 0 (.slice xna 1 xnk), .ce g1 0 (.slice la 1 lk), .rw (.slice la 1 lk) 1 1 (wd Lx), .rw (.slice xra 1 xrk) 1 1 (wd Rx), .rw (.slice xna 1 xnk) 1 1 (wd Nx)] w) := Lib.hid ((((((((Env.start D w).arg (.rw (.slice xna 1 xnk) 1 1 (wd Nx)) hxn).arg (.rw (.slice xra 1 xrk) 1 1 (wd Rx)) hxr).arg (.rw (.slice la 1 lk) 1 1 (wd Lx)) hl).arg (.ce g1 0 (.slice la 1 lk)) h1).arg (.ce g2 0 (.slice xna 1 xnk)) h20).arg (.ce g2 1 (.slice xra 1 xrk)) h21).arg (.ce g2 2 (.slice xza 0 xzk)) h22)
  clear hxn hxr hl h1 h20 h21 h22
  go_enter Tryd.func150, Tryd.ntmps150
  go_wp2_with fail
  refine (cidx0 Nx Rx Lx g1 g2 (E0.out.fc 6 rfl) (E0.out.fc 5 rfl) (E0.out.fc 4 rfl) (E0.out.fc 3 rfl) (E0.out.fc 2 rfl) (E0.out.fc 1 rfl) (E0.out.fc 0 rfl) hN0 hR0 hL0 hlt0).mono ?_
  rintro e w1 ⟨rfl, hb⟩
  have E1 : Hid (Env D w [] [.ce g2 2 (.slice xza 0 xzk), .ce g2 1 (.slice xra 1 xrk), .ce g2 0 (.slice xna 1 xnk), .ce g1 0 (.slice la 1 lk), .rw (.slice la 1 lk) 1 1 (wd Lx), .rw (.slice xra 1 xrk) 1 1 (wd Rx), .rw (.slice xna 1 xnk) 1 1 (wd Nx)] w1) := Lib.hid (E0.out.below hb)
  clear E0 hb
  have hfin := Lib.hid E1.out.bel
  go_wp2
  go_ret
  exact ⟨rfl, hfin.out⟩
set_option maxRecDepth 100000 in
set_option maxHeartbeats 1000000 in
theorem cidx1 {D : Nat → Prop} (Nx Rx Lx Np : Nat) {xna xra xza pna pra pza : Option Addr} {xnk xrk xzk pnk prk pzk pm : Nat} (g1 : Nat) (g2 : Nat) {la : Option Addr} {lk : Nat} {w : World} (hxn : Fct.at w D (.rw (.slice xna 1 xnk) 1 1 (wd Nx))) (hxr : Fct.at w D (.rw (.slice xra 1 xrk) 1 1 (wd Rx))) (hl : Fct.at w D (.rw (.slice la 1 lk) 1 1 (wd Lx))) (h1 : Fct.at w D (.ce g1 0 (.slice la 1 lk))) (h20 : Fct.at w D (.ce g2 0 (.slice xna 1 xnk))) (h21 : Fct.at w D (.ce g2 1 (.slice xra 1 xrk))) (h22 : Fct.at w D (.ce g2 2 (.slice xza 1 xzk))) (hz : Fct.at w D (.rw (.slice xza 1 xzk) 1 3 [.slice pna 1 pnk, .slice pra 1 prk, .slice pza pm pzk])) (hpn : Fct.at w D (.rw (.slice pna 1 pnk) 1 1 (wd Np))) (hN0 : One Nx) (hR0 : One Rx) (hL0 : One Lx) (hlt0 : Rx < Nx) (kp0 : PartOk Nx Rx Lx Np) :
    Calls Tryd.prog 168 #[.slice xza 1 xzk, .func (.func 151) #[] #[.pointer (some ⟨g1, 0, none⟩), .pointer (some ⟨g2, 0, none⟩)]] w fun e w' => e = .returned (.int .i64 (-1)) ∧ Below w.heap.size w w' := by
  have E0 : Hid (Env D w [] [.rw (.slice pna 1 pnk) 1 1 (wd Np), .rw (.slice xza 1 xzk) 1 3 [.slice pna 1 pnk, .slice pra 1 prk, .slice pza pm pzk], .ce g2 2 (.slice xza 1 xzk), .ce g2 1 (.slice xra 1 xrk), .ce g2 0 (.slice xna 1 xnk), .ce g1 0 (.slice la 1 lk), .rw (.slice la 1 lk) 1 1 (wd Lx), .rw (.slice xra 1 xrk) 1 1 (wd Rx), .rw (.slice xna 1 xnk) 1 1 (wd Nx)] w) := Lib.hid ((((((((((Env.start D w).arg (.rw (.slice xna 1 xnk) 1 1 (wd Nx)) hxn).arg (.rw (.slice xra 1 xrk) 1 1 (wd Rx)) hxr).arg (.rw (.slice la 1 lk) 1 1 (wd Lx)) hl).arg (.ce g1 0 (.slice la 1 lk)) h1).arg (.ce g2 0 (.slice xna 1 xnk)) h20).arg (.ce g2 1 (.slice xra 1 xrk)) h21).arg (.ce g2 2 (.slice xza 1 xzk)) h22).arg (.rw (.slice xza 1 xzk) 1 3 [.slice pna 1 pnk, .slice pra 1 prk, .slice pza pm pzk]) hz).arg (.rw (.slice pna 1 pnk) 1 1 (wd Np)) hpn)
  clear hxn hxr hl h1 h20 h21 h22 hz hpn
  go_enter Tryd.func168, Tryd.ntmps168
  have hN := Lib.hid hN0
  have hR := Lib.hid hR0
  have hL := Lib.hid hL0
  have hlt := Lib.hid hlt0
  have kp := Lib.hid kp0
  clear hN0 hR0 hL0 hlt0 kp0
  go_wp2_with fail
  go_loopg [8] (1) (fun gk s8 wr => ∃ (k : Int), s8 = .int .i64 k ∧ Hid (Env D w [] [.rw (.slice pna 1 pnk) 1 1 (wd Np), .rw (.slice xza 1 xzk) 1 3 [.slice pna 1 pnk, .slice pra 1 prk, .slice pza pm pzk], .ce g2 2 (.slice xza 1 xzk), .ce g2 1 (.slice xra 1 xrk), .ce g2 0 (.slice xna 1 xnk), .ce g1 0 (.slice la 1 lk), .rw (.slice la 1 lk) 1 1 (wd Lx), .rw (.slice xra 1 xrk) 1 1 (wd Rx), .rw (.slice xna 1 xnk) 1 1 (wd Nx)] wr) ∧ Hid ((0 ≤ k ∧ k ≤ 1) ∧ gk = 1 - k.toNat))
  case atStart => exact ⟨0, rfl, Lib.hid E0.out, Lib.hid ⟨by omega, rfl⟩⟩
  case round =>
    clear E0
    obtain ⟨k, rfl, EL, HA⟩ := hrel
    obtain ⟨a1, a2⟩ := HA.out
    clear HA
    have hk' : k = 0 ∨ k = 1 := by omega
    clear a1
    rcases hk' with rfl | rfl
    · skip
      obtain ⟨xzab, xzao, rfl⟩ := Rw.addr (EL.out.fc 1 rfl) (by omega)
      have E1 : Hid (Env D w [] [.ce xzab xzao (.slice pna 1 pnk), .ce xzab (xzao + 1) (.slice pra 1 prk), .ce xzab (xzao + 2) (.slice pza pm pzk), .rw (.slice pna 1 pnk) 1 1 (wd Np), .rw (.slice (some ⟨xzab, xzao, none⟩) 1 xzk) 1 3 [.slice pna 1 pnk, .slice pra 1 prk, .slice pza pm pzk], .ce g2 2 (.slice (some ⟨xzab, xzao, none⟩) 1 xzk), .ce g2 1 (.slice xra 1 xrk), .ce g2 0 (.slice xna 1 xnk), .ce g1 0 (.slice la 1 lk), .rw (.slice la 1 lk) 1 1 (wd Lx), .rw (.slice xra 1 xrk) 1 1 (wd Rx), .rw (.slice xna 1 xnk) 1 1 (wd Nx)] _) := Lib.hid (EL.out.el3 1 rfl (by omega) (a := 0) (c := 1) (d := 2) rfl rfl rfl)
      clear EL
      have u0 := (E1.out.fc 0 rfl).2
      have u1 := (E1.out.fc 1 rfl).2
      have u2 := (E1.out.fc 2 rfl).2
      obtain ⟨qq, SS, o1, o2, o3, o4, o5, o6⟩ := kp.out
      have O := Lib.hid (And.intro o1 (And.intro o2 (And.intro o3 (And.intro o4 (And.intro o5 (decide_eq_false o6))))))
      clear o1 o2 o3 o4 o5 o6
      go_wp2_with fail
      refine (right1 Nx Rx Lx Np qq g1 g2 (E1.out.fc 11 rfl) (E1.out.fc 10 rfl) (E1.out.fc 9 rfl) (E1.out.fc 3 rfl) (E1.out.fc 8 rfl) (E1.out.fc 7 rfl) (E1.out.fc 6 rfl) (E1.out.fc 5 rfl) SS O.out.1 O.out.2.1 O.out.2.2.1 hN.out hR.out hL.out O.out.2.2.2.1 O.out.2.2.2.2.1 hlt.out O.out.2.2.2.2.2).mono ?_
      rintro e w1 ⟨rfl, hb⟩
      have E2 : Hid (Env D w [] [.ce xzab xzao (.slice pna 1 pnk), .ce xzab (xzao + 1) (.slice pra 1 prk), .ce xzab (xzao + 2) (.slice pza pm pzk), .rw (.slice pna 1 pnk) 1 1 (wd Np), .rw (.slice (some ⟨xzab, xzao, none⟩) 1 xzk) 1 3 [.slice pna 1 pnk, .slice pra 1 prk, .slice pza pm pzk], .ce g2 2 (.slice (some ⟨xzab, xzao, none⟩) 1 xzk), .ce g2 1 (.slice xra 1 xrk), .ce g2 0 (.slice xna 1 xnk), .ce g1 0 (.slice la 1 lk), .rw (.slice la 1 lk) 1 1 (wd Lx), .rw (.slice xra 1 xrk) 1 1 (wd Rx), .rw (.slice xna 1 xnk) 1 1 (wd Nx)] w1) := Lib.hid (E1.out.below hb)
      clear u0 u1 u2 E1 hb
      have EZ := Lib.hid (((E2.out.forget).forget).forget)
      go_wp2
      go_roundg (1 - 1)
      case rel => exact ⟨1, rfl, EZ, Lib.hid ⟨by omega, rfl⟩⟩
      case measure => exact by simp at a2; omega
    · skip
      have hfin := Lib.hid EL.out.bel
      go_wp2
      go_ret
      exact ⟨rfl, hfin.out⟩
set_option maxRecDepth 100000 in
set_option maxHeartbeats 1000000 in
theorem ccon1 {D : Nat → Prop} (Nx Rx Lx Np : Nat) {xna xra xza pna pra pza : Option Addr} {xnk xrk xzk pnk prk pzk pm : Nat} (g1 : Nat) (g2 : Nat) {la : Option Addr} {lk : Nat} {w : World} (hxn : Fct.at w D (.rw (.slice xna 1 xnk) 1 1 (wd Nx))) (hxr : Fct.at w D (.rw (.slice xra 1 xrk) 1 1 (wd Rx))) (hl : Fct.at w D (.rw (.slice la 1 lk) 1 1 (wd Lx))) (h1 : Fct.at w D (.ce g1 0 (.slice la 1 lk))) (h20 : Fct.at w D (.ce g2 0 (.slice xna 1 xnk))) (h21 : Fct.at w D (.ce g2 1 (.slice xra 1 xrk))) (h22 : Fct.at w D (.ce g2 2 (.slice xza 1 xzk))) (hz : Fct.at w D (.rw (.slice xza 1 xzk) 1 3 [.slice pna 1 pnk, .slice pra 1 prk, .slice pza pm pzk])) (hpn : Fct.at w D (.rw (.slice pna 1 pnk) 1 1 (wd Np))) (hN0 : One Nx) (hR0 : One Rx) (hL0 : One Lx) (hlt0 : Rx < Nx) (kp0 : PartOk Nx Rx Lx Np) :
    Calls Tryd.prog 150 #[.slice xza 1 xzk, .func (.func 151) #[] #[.pointer (some ⟨g1, 0, none⟩), .pointer (some ⟨g2, 0, none⟩)]] w fun e w' => e = .returned (.bool false) ∧ Below w.heap.size w w' := by
  have E0 : Hid (Env D w [] [.rw (.slice pna 1 pnk) 1 1 (wd Np), .rw (.slice xza 1 xzk) 1 3 [.slice pna 1 pnk, .slice pra 1 prk, .slice pza pm pzk], .ce g2 2 (.slice xza 1 xzk), .ce g2 1 (.slice xra 1 xrk), .ce g2 0 (.slice xna 1 xnk), .ce g1 0 (.slice la 1 lk), .rw (.slice la 1 lk) 1 1 (wd Lx), .rw (.slice xra 1 xrk) 1 1 (wd Rx), .rw (.slice xna 1 xnk) 1 1 (wd Nx)] w) := Lib.hid ((((((((((Env.start D w).arg (.rw (.slice xna 1 xnk) 1 1 (wd Nx)) hxn).arg (.rw (.slice xra 1 xrk) 1 1 (wd Rx)) hxr).arg (.rw (.slice la 1 lk) 1 1 (wd Lx)) hl).arg (.ce g1 0 (.slice la 1 lk)) h1).arg (.ce g2 0 (.slice xna 1 xnk)) h20).arg (.ce g2 1 (.slice xra 1 xrk)) h21).arg (.ce g2 2 (.slice xza 1 xzk)) h22).arg (.rw (.slice xza 1 xzk) 1 3 [.slice pna 1 pnk, .slice pra 1 prk, .slice pza pm pzk]) hz).arg (.rw (.slice pna 1 pnk) 1 1 (wd Np)) hpn)
  clear hxn hxr hl h1 h20 h21 h22 hz hpn
  go_enter Tryd.func150, Tryd.ntmps150
  go_wp2_with fail
  refine (cidx1 Nx Rx Lx Np g1 g2 (E0.out.fc 8 rfl) (E0.out.fc 7 rfl) (E0.out.fc 6 rfl) (E0.out.fc 5 rfl) (E0.out.fc 4 rfl) (E0.out.fc 3 rfl) (E0.out.fc 2 rfl) (E0.out.fc 1 rfl) (E0.out.fc 0 rfl) hN0 hR0 hL0 hlt0 kp0).mono ?_
  rintro e w1 ⟨rfl, hb⟩
  have E1 : Hid (Env D w [] [.rw (.slice pna 1 pnk) 1 1 (wd Np), .rw (.slice xza 1 xzk) 1 3 [.slice pna 1 pnk, .slice pra 1 prk, .slice pza pm pzk], .ce g2 2 (.slice xza 1 xzk), .ce g2 1 (.slice xra 1 xrk), .ce g2 0 (.slice xna 1 xnk), .ce g1 0 (.slice la 1 lk), .rw (.slice la 1 lk) 1 1 (wd Lx), .rw (.slice xra 1 xrk) 1 1 (wd Rx), .rw (.slice xna 1 xnk) 1 1 (wd Nx)] w1) := Lib.hid (E0.out.below hb)
  clear E0 hb
  have hfin := Lib.hid E1.out.bel
  go_wp2
  go_ret
  exact ⟨rfl, hfin.out⟩
set_option maxRecDepth 100000 in
set_option maxHeartbeats 1000000 in
theorem cidx2 {D : Nat → Prop} (Nx Rx Lx Np Nq : Nat) {xna xra xza pna pra pza qna qra qza : Option Addr} {xnk xrk xzk pnk prk pzk pm qnk qrk qzk qm : Nat} (g1 : Nat) (g2 : Nat) {la : Option Addr} {lk : Nat} {w : World} (hxn : Fct.at w D (.rw (.slice xna 1 xnk) 1 1 (wd Nx))) (hxr : Fct.at w D (.rw (.slice xra 1 xrk) 1 1 (wd Rx))) (hl : Fct.at w D (.rw (.slice la 1 lk) 1 1 (wd Lx))) (h1 : Fct.at w D (.ce g1 0 (.slice la 1 lk))) (h20 : Fct.at w D (.ce g2 0 (.slice xna 1 xnk))) (h21 : Fct.at w D (.ce g2 1 (.slice xra 1 xrk))) (h22 : Fct.at w D (.ce g2 2 (.slice xza 2 xzk))) (hz : Fct.at w D (.rw (.slice xza 2 xzk) 2 3 [.slice pna 1 pnk, .slice pra 1 prk, .slice pza pm pzk, .slice qna 1 qnk, .slice qra 1 qrk, .slice qza qm qzk])) (hpn : Fct.at w D (.rw (.slice pna 1 pnk) 1 1 (wd Np))) (hqn : Fct.at w D (.rw (.slice qna 1 qnk) 1 1 (wd Nq))) (hN0 : One Nx) (hR0 : One Rx) (hL0 : One Lx) (hlt0 : Rx < Nx) (kp0 : PartOk Nx Rx Lx Np) (kq0 : PartOk Nx Rx Lx Nq) :
    Calls Tryd.prog 168 #[.slice xza 2 xzk, .func (.func 151) #[] #[.pointer (some ⟨g1, 0, none⟩), .pointer (some ⟨g2, 0, none⟩)]] w fun e w' => e = .returned (.int .i64 (-1)) ∧ Below w.heap.size w w' := by
  have E0 : Hid (Env D w [] [.rw (.slice qna 1 qnk) 1 1 (wd Nq), .rw (.slice pna 1 pnk) 1 1 (wd Np), .rw (.slice xza 2 xzk) 2 3 [.slice pna 1 pnk, .slice pra 1 prk, .slice pza pm pzk, .slice qna 1 qnk, .slice qra 1 qrk, .slice qza qm qzk], .ce g2 2 (.slice xza 2 xzk), .ce g2 1 (.slice xra 1 xrk), .ce g2 0 (.slice xna 1 xnk), .ce g1 0 (.slice la 1 lk), .rw (.slice la 1 lk) 1 1 (wd Lx), .rw (.slice xra 1 xrk) 1 1 (wd Rx), .rw (.slice xna 1 xnk) 1 1 (wd Nx)] w) := Lib.hid (((((((((((Env.start D w).arg (.rw (.slice xna 1 xnk) 1 1 (wd Nx)) hxn).arg (.rw (.slice xra 1 xrk) 1 1 (wd Rx)) hxr).arg (.rw (.slice la 1 lk) 1 1 (wd Lx)) hl).arg (.ce g1 0 (.slice la 1 lk)) h1).arg (.ce g2 0 (.slice xna 1 xnk)) h20).arg (.ce g2 1 (.slice xra 1 xrk)) h21).arg (.ce g2 2 (.slice xza 2 xzk)) h22).arg (.rw (.slice xza 2 xzk) 2 3 [.slice pna 1 pnk, .slice pra 1 prk, .slice pza pm pzk, .slice qna 1 qnk, .slice qra 1 qrk, .slice qza qm qzk]) hz).arg (.rw (.slice pna 1 pnk) 1 1 (wd Np)) hpn).arg (.rw (.slice qna 1 qnk) 1 1 (wd Nq)) hqn)
  clear hxn hxr hl h1 h20 h21 h22 hz hpn hqn
  go_enter Tryd.func168, Tryd.ntmps168
  have hN := Lib.hid hN0
  have hR := Lib.hid hR0
  have hL := Lib.hid hL0
  have hlt := Lib.hid hlt0
  have kp := Lib.hid kp0
  have kq := Lib.hid kq0
  clear hN0 hR0 hL0 hlt0 kp0 kq0
  go_wp2_with fail
  go_loopg [8] (2) (fun gk s8 wr => ∃ (k : Int), s8 = .int .i64 k ∧ Hid (Env D w [] [.rw (.slice qna 1 qnk) 1 1 (wd Nq), .rw (.slice pna 1 pnk) 1 1 (wd Np), .rw (.slice xza 2 xzk) 2 3 [.slice pna 1 pnk, .slice pra 1 prk, .slice pza pm pzk, .slice qna 1 qnk, .slice qra 1 qrk, .slice qza qm qzk], .ce g2 2 (.slice xza 2 xzk), .ce g2 1 (.slice xra 1 xrk), .ce g2 0 (.slice xna 1 xnk), .ce g1 0 (.slice la 1 lk), .rw (.slice la 1 lk) 1 1 (wd Lx), .rw (.slice xra 1 xrk) 1 1 (wd Rx), .rw (.slice xna 1 xnk) 1 1 (wd Nx)] wr) ∧ Hid ((0 ≤ k ∧ k ≤ 2) ∧ gk = 2 - k.toNat))
  case atStart => exact ⟨0, rfl, Lib.hid E0.out, Lib.hid ⟨by omega, rfl⟩⟩
  case round =>
    clear E0
    obtain ⟨k, rfl, EL, HA⟩ := hrel
    obtain ⟨a1, a2⟩ := HA.out
    clear HA
    have hk' : k = 0 ∨ k = 1 ∨ k = 2 := by omega
    clear a1
    rcases hk' with rfl | rfl | rfl
    · skip
      obtain ⟨xzab, xzao, rfl⟩ := Rw.addr (EL.out.fc 2 rfl) (by omega)
      have E1 : Hid (Env D w [] [.ce xzab xzao (.slice pna 1 pnk), .ce xzab (xzao + 1) (.slice pra 1 prk), .ce xzab (xzao + 2) (.slice pza pm pzk), .rw (.slice qna 1 qnk) 1 1 (wd Nq), .rw (.slice pna 1 pnk) 1 1 (wd Np), .rw (.slice (some ⟨xzab, xzao, none⟩) 2 xzk) 2 3 [.slice pna 1 pnk, .slice pra 1 prk, .slice pza pm pzk, .slice qna 1 qnk, .slice qra 1 qrk, .slice qza qm qzk], .ce g2 2 (.slice (some ⟨xzab, xzao, none⟩) 2 xzk), .ce g2 1 (.slice xra 1 xrk), .ce g2 0 (.slice xna 1 xnk), .ce g1 0 (.slice la 1 lk), .rw (.slice la 1 lk) 1 1 (wd Lx), .rw (.slice xra 1 xrk) 1 1 (wd Rx), .rw (.slice xna 1 xnk) 1 1 (wd Nx)] _) := Lib.hid (EL.out.el3 2 rfl (by omega) (a := 0) (c := 1) (d := 2) rfl rfl rfl)
      clear EL
      have u0 := (E1.out.fc 0 rfl).2
      have u1 := (E1.out.fc 1 rfl).2
      have u2 := (E1.out.fc 2 rfl).2
      obtain ⟨qq, SS, o1, o2, o3, o4, o5, o6⟩ := kp.out
      have O := Lib.hid (And.intro o1 (And.intro o2 (And.intro o3 (And.intro o4 (And.intro o5 (decide_eq_false o6))))))
      clear o1 o2 o3 o4 o5 o6
      go_wp2_with fail
      refine (right1 Nx Rx Lx Np qq g1 g2 (E1.out.fc 12 rfl) (E1.out.fc 11 rfl) (E1.out.fc 10 rfl) (E1.out.fc 4 rfl) (E1.out.fc 9 rfl) (E1.out.fc 8 rfl) (E1.out.fc 7 rfl) (E1.out.fc 6 rfl) SS O.out.1 O.out.2.1 O.out.2.2.1 hN.out hR.out hL.out O.out.2.2.2.1 O.out.2.2.2.2.1 hlt.out O.out.2.2.2.2.2).mono ?_
      rintro e w1 ⟨rfl, hb⟩
      have E2 : Hid (Env D w [] [.ce xzab xzao (.slice pna 1 pnk), .ce xzab (xzao + 1) (.slice pra 1 prk), .ce xzab (xzao + 2) (.slice pza pm pzk), .rw (.slice qna 1 qnk) 1 1 (wd Nq), .rw (.slice pna 1 pnk) 1 1 (wd Np), .rw (.slice (some ⟨xzab, xzao, none⟩) 2 xzk) 2 3 [.slice pna 1 pnk, .slice pra 1 prk, .slice pza pm pzk, .slice qna 1 qnk, .slice qra 1 qrk, .slice qza qm qzk], .ce g2 2 (.slice (some ⟨xzab, xzao, none⟩) 2 xzk), .ce g2 1 (.slice xra 1 xrk), .ce g2 0 (.slice xna 1 xnk), .ce g1 0 (.slice la 1 lk), .rw (.slice la 1 lk) 1 1 (wd Lx), .rw (.slice xra 1 xrk) 1 1 (wd Rx), .rw (.slice xna 1 xnk) 1 1 (wd Nx)] w1) := Lib.hid (E1.out.below hb)
      clear u0 u1 u2 E1 hb
      have EZ := Lib.hid (((E2.out.forget).forget).forget)
      go_wp2
      go_roundg (2 - 1)
      case rel => exact ⟨1, rfl, EZ, Lib.hid ⟨by omega, rfl⟩⟩
      case measure => exact by simp at a2; omega
    · skip
      obtain ⟨xzab, xzao, rfl⟩ := Rw.addr (EL.out.fc 2 rfl) (by omega)
      have E1 : Hid (Env D w [] [.ce xzab (xzao + 3) (.slice qna 1 qnk), .ce xzab (xzao + 4) (.slice qra 1 qrk), .ce xzab (xzao + 5) (.slice qza qm qzk), .rw (.slice qna 1 qnk) 1 1 (wd Nq), .rw (.slice pna 1 pnk) 1 1 (wd Np), .rw (.slice (some ⟨xzab, xzao, none⟩) 2 xzk) 2 3 [.slice pna 1 pnk, .slice pra 1 prk, .slice pza pm pzk, .slice qna 1 qnk, .slice qra 1 qrk, .slice qza qm qzk], .ce g2 2 (.slice (some ⟨xzab, xzao, none⟩) 2 xzk), .ce g2 1 (.slice xra 1 xrk), .ce g2 0 (.slice xna 1 xnk), .ce g1 0 (.slice la 1 lk), .rw (.slice la 1 lk) 1 1 (wd Lx), .rw (.slice xra 1 xrk) 1 1 (wd Rx), .rw (.slice xna 1 xnk) 1 1 (wd Nx)] _) := Lib.hid (EL.out.el3 2 rfl (by omega) (a := 3) (c := 4) (d := 5) rfl rfl rfl)
      clear EL
      have u0 := (E1.out.fc 0 rfl).2
      have u1 := (E1.out.fc 1 rfl).2
      have u2 := (E1.out.fc 2 rfl).2
      obtain ⟨qq, SS, o1, o2, o3, o4, o5, o6⟩ := kq.out
      have O := Lib.hid (And.intro o1 (And.intro o2 (And.intro o3 (And.intro o4 (And.intro o5 (decide_eq_false o6))))))
      clear o1 o2 o3 o4 o5 o6
      go_wp2_with fail
      refine (right1 Nx Rx Lx Nq qq g1 g2 (E1.out.fc 12 rfl) (E1.out.fc 11 rfl) (E1.out.fc 10 rfl) (E1.out.fc 3 rfl) (E1.out.fc 9 rfl) (E1.out.fc 8 rfl) (E1.out.fc 7 rfl) (E1.out.fc 6 rfl) SS O.out.1 O.out.2.1 O.out.2.2.1 hN.out hR.out hL.out O.out.2.2.2.1 O.out.2.2.2.2.1 hlt.out O.out.2.2.2.2.2).mono ?_
      rintro e w1 ⟨rfl, hb⟩
      have E2 : Hid (Env D w [] [.ce xzab (xzao + 3) (.slice qna 1 qnk), .ce xzab (xzao + 4) (.slice qra 1 qrk), .ce xzab (xzao + 5) (.slice qza qm qzk), .rw (.slice qna 1 qnk) 1 1 (wd Nq), .rw (.slice pna 1 pnk) 1 1 (wd Np), .rw (.slice (some ⟨xzab, xzao, none⟩) 2 xzk) 2 3 [.slice pna 1 pnk, .slice pra 1 prk, .slice pza pm pzk, .slice qna 1 qnk, .slice qra 1 qrk, .slice qza qm qzk], .ce g2 2 (.slice (some ⟨xzab, xzao, none⟩) 2 xzk), .ce g2 1 (.slice xra 1 xrk), .ce g2 0 (.slice xna 1 xnk), .ce g1 0 (.slice la 1 lk), .rw (.slice la 1 lk) 1 1 (wd Lx), .rw (.slice xra 1 xrk) 1 1 (wd Rx), .rw (.slice xna 1 xnk) 1 1 (wd Nx)] w1) := Lib.hid (E1.out.below hb)
      clear u0 u1 u2 E1 hb
      have EZ := Lib.hid (((E2.out.forget).forget).forget)
      go_wp2
      go_roundg (2 - 2)
      case rel => exact ⟨2, rfl, EZ, Lib.hid ⟨by omega, rfl⟩⟩
      case measure => exact by simp at a2; omega
    · skip
      have hfin := Lib.hid EL.out.bel
      go_wp2
      go_ret
      exact ⟨rfl, hfin.out⟩
set_option maxRecDepth 100000 in
set_option maxHeartbeats 1000000 in
theorem ccon2 {D : Nat → Prop} (Nx Rx Lx Np Nq : Nat) {xna xra xza pna pra pza qna qra qza : Option Addr} {xnk xrk xzk pnk prk pzk pm qnk qrk qzk qm : Nat} (g1 : Nat) (g2 : Nat) {la : Option Addr} {lk : Nat} {w : World} (hxn : Fct.at w D (.rw (.slice xna 1 xnk) 1 1 (wd Nx))) (hxr : Fct.at w D (.rw (.slice xra 1 xrk) 1 1 (wd Rx))) (hl : Fct.at w D (.rw (.slice la 1 lk) 1 1 (wd Lx))) (h1 : Fct.at w D (.ce g1 0 (.slice la 1 lk))) (h20 : Fct.at w D (.ce g2 0 (.slice xna 1 xnk))) (h21 : Fct.at w D (.ce g2 1 (.slice xra 1 xrk))) (h22 : Fct.at w D (.ce g2 2 (.slice xza 2 xzk))) (hz : Fct.at w D (.rw (.slice xza 2 xzk) 2 3 [.slice pna 1 pnk, .slice pra 1 prk, .slice pza pm pzk, .slice qna 1 qnk, .slice qra 1 qrk, .slice qza qm qzk])) (hpn : Fct.at w D (.rw (.slice pna 1 pnk) 1 1 (wd Np))) (hqn : Fct.at w D (.rw (.slice qna 1 qnk) 1 1 (wd Nq))) (hN0 : One Nx) (hR0 : One Rx) (hL0 : One Lx) (hlt0 : Rx < Nx) (kp0 : PartOk Nx Rx Lx Np) (kq0 : PartOk Nx Rx Lx Nq) :
    Calls Tryd.prog 150 #[.slice xza 2 xzk, .func (.func 151) #[] #[.pointer (some ⟨g1, 0, none⟩), .pointer (some ⟨g2, 0, none⟩)]] w fun e w' => e = .returned (.bool false) ∧ Below w.heap.size w w' := by
  have E0 : Hid (Env D w [] [.rw (.slice qna 1 qnk) 1 1 (wd Nq), .rw (.slice pna 1 pnk) 1 1 (wd Np), .rw (.slice xza 2 xzk) 2 3 [.slice pna 1 pnk, .slice pra 1 prk, .slice pza pm pzk, .slice qna 1 qnk, .slice qra 1 qrk, .slice qza qm qzk], .ce g2 2 (.slice xza 2 xzk), .ce g2 1 (.slice xra 1 xrk), .ce g2 0 (.slice xna 1 xnk), .ce g1 0 (.slice la 1 lk), .rw (.slice la 1 lk) 1 1 (wd Lx), .rw (.slice xra 1 xrk) 1 1 (wd Rx), .rw (.slice xna 1 xnk) 1 1 (wd Nx)] w) := Lib.hid (((((((((((Env.start D w).arg (.rw (.slice xna 1 xnk) 1 1 (wd Nx)) hxn).arg (.rw (.slice xra 1 xrk) 1 1 (wd Rx)) hxr).arg (.rw (.slice la 1 lk) 1 1 (wd Lx)) hl).arg (.ce g1 0 (.slice la 1 lk)) h1).arg (.ce g2 0 (.slice xna 1 xnk)) h20).arg (.ce g2 1 (.slice xra 1 xrk)) h21).arg (.ce g2 2 (.slice xza 2 xzk)) h22).arg (.rw (.slice xza 2 xzk) 2 3 [.slice pna 1 pnk, .slice pra 1 prk, .slice pza pm pzk, .slice qna 1 qnk, .slice qra 1 qrk, .slice qza qm qzk]) hz).arg (.rw (.slice pna 1 pnk) 1 1 (wd Np)) hpn).arg (.rw (.slice qna 1 qnk) 1 1 (wd Nq)) hqn)
  clear hxn hxr hl h1 h20 h21 h22 hz hpn hqn
  go_enter Tryd.func150, Tryd.ntmps150
  go_wp2_with fail
  refine (cidx2 Nx Rx Lx Np Nq g1 g2 (E0.out.fc 9 rfl) (E0.out.fc 8 rfl) (E0.out.fc 7 rfl) (E0.out.fc 6 rfl) (E0.out.fc 5 rfl) (E0.out.fc 4 rfl) (E0.out.fc 3 rfl) (E0.out.fc 2 rfl) (E0.out.fc 1 rfl) (E0.out.fc 0 rfl) hN0 hR0 hL0 hlt0 kp0 kq0).mono ?_
  rintro e w1 ⟨rfl, hb⟩
  have E1 : Hid (Env D w [] [.rw (.slice qna 1 qnk) 1 1 (wd Nq), .rw (.slice pna 1 pnk) 1 1 (wd Np), .rw (.slice xza 2 xzk) 2 3 [.slice pna 1 pnk, .slice pra 1 prk, .slice pza pm pzk, .slice qna 1 qnk, .slice qra 1 qrk, .slice qza qm qzk], .ce g2 2 (.slice xza 2 xzk), .ce g2 1 (.slice xra 1 xrk), .ce g2 0 (.slice xna 1 xnk), .ce g1 0 (.slice la 1 lk), .rw (.slice la 1 lk) 1 1 (wd Lx), .rw (.slice xra 1 xrk) 1 1 (wd Rx), .rw (.slice xna 1 xnk) 1 1 (wd Nx)] w1) := Lib.hid (E0.out.below hb)
  clear E0 hb
  have hfin := Lib.hid E1.out.bel
  go_wp2
  go_ret
  exact ⟨rfl, hfin.out⟩
end Go.Proofs.YtinlfogpbologaaDoor

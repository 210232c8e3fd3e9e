/- specielaw39: LineFates. -/
import Derived.Test.YtbcfcdcomboljaaLinLb
import Derived.Test.YtbcfcdcomboljaaLinFt
import Derived.Test.YtbcfcdcomboljaaLinMk
import Derived.Deep.DeepCutAuto
import Derived.Deep.CutBlock
namespace Go.Proofs.Ytbcfcdcomboljaa
open Go.RowKit
set_option linter.unusedVariables false
set_option linter.unusedSimpArgs false
def dr (ft : List (Int × Int)) (k : Nat) : List (Int × Int) := ft.drop k
theorem FS.len {ft : List (Int × Int)} {k : Nat} {js : List Nat} (h : FS ft k js) : (FLn ft 0 js (dr ft k)).ats.length ≤ 1000 := by
  have h1 := h.1.1.2.1; have h2 := h.1.1.2.2.1
  show (FLn ft 0 js (ft.drop k)).ats.length ≤ 1000
  omega
theorem New_fl {ft : List (Int × Int)} {D : Nat → Prop} {fa : Option Addr} {fk : Nat} {w : World} (hx : Fct.at w D (.rw (.slice fa ft.length fk) ft.length 2 (fcl ft))) (hl : ft.length ≤ 60) (hF : FatsOk ft) : Calls Try.prog 33 #[.slice fa ft.length fk] w fun e w' => RetLE (fun b => D b ∨ w.heap.size ≤ b) (FLn ft 0 [] (dr ft 0)) 0 e w' ∧ Below w.heap.size w w' :=
  New_ok ft hx (by omega) hF
def SndIs (ft : List (Int × Int)) (k : Nat) (js js' : List Nat) : Prop := ∃ c d p, fate0 (FLn ft 0 js (ft.drop k)) = (((c : Nat) : Int), d) ∧ PlaceIs (FLn ft 0 js (ft.drop k)).ats ((FLn ft 0 js (ft.drop k)).nw + d) p ∧ ¬ 1000 < (FLn ft 0 js (ft.drop k)).L.length + c ∧ sendL (FLn ft 0 js (ft.drop k)) (letterM (k : Int)) p c d = FLn ft 0 js' (ft.drop (k + 1))
theorem FS.send {ft : List (Int × Int)} {k : Nat} {js : List Nat} (h : FS ft k js) (hk : k < ft.length) (hl : ft.length ≤ 60) (hf : FatsOk ft) : ∃ js', SndIs ft k js js' ∧ FS ft (k + 1) js' := by
  obtain ⟨c, d, p, js', a1, a2, a3, a4, a5⟩ := h.step hk hl hf
  exact ⟨js', ⟨c, d, p, a1, a2, a3, a4⟩, a5⟩
theorem Send_fl {ft : List (Int × Int)} {k : Nat} {js js2 : List Nat} (hS : FS ft k js) (hk : k < 60) (hQ : SndIs ft k js js2) {xa xb xc : Option Addr} {xj xk xm : Nat} {D : Nat → Prop} {w : World} (h1 : Fct.at w D (.ms (.slice xa (FLn ft 0 js (dr ft k)).L.length xj) (FLn ft 0 js (dr ft k)).L)) (h2 : Fct.at w D (.rw (.slice xb (FLn ft 0 js (dr ft k)).ats.length xk) (FLn ft 0 js (dr ft k)).ats.length 1 (icl (FLn ft 0 js (dr ft k)).ats))) (h3 : Fct.at w D (.rw (.slice xc (FLn ft 0 js (dr ft k)).ft.length xm) (FLn ft 0 js (dr ft k)).ft.length 2 (fcl (FLn ft 0 js (dr ft k)).ft))) {ma : Option Addr} {mk : Nat} (hm : Fct.at w D (.bs (.slice ma (letterM (k : Int)).body.length mk) (letterM (k : Int)).body)) :
    Calls Try.prog 34 #[.agg #[.int .i64 (FLn ft 0 js (dr ft k)).nw, .slice xa (FLn ft 0 js (dr ft k)).L.length xj, .slice xb (FLn ft 0 js (dr ft k)).ats.length xk, .slice xc (FLn ft 0 js (dr ft k)).ft.length xm], .agg #[.int .i64 (letterM (k : Int)).fr, .int .i64 (letterM (k : Int)).to_, .int .i64 (letterM (k : Int)).kd, .int .i64 (letterM (k : Int)).nm, .slice ma (letterM (k : Int)).body.length mk]] w fun e w' => RetLE (fun b => D b ∨ w.heap.size ≤ b) (FLn ft 0 js2 (dr ft (k + 1))) 0 e w' ∧ Below w.heap.size w w' := by
  obtain ⟨c, d, p, a1, a2, a3, a4⟩ := hQ
  have := Send_ok (M := letterM (k : Int)) h1 h2 h3 hm hS.1 (letter_ok (k := k) (by omega)) a1 a2 (ok_big hS.1) (Nat.zero_le _) a3
  rw [show sendL (FLn ft 0 js (dr ft k)) (letterM (k : Int)) p c d = _ from a4] at this
  exact this
theorem Receive_fl {ft fts : List (Int × Int)} {r f j : Nat} {now : Int} {js : List Nat} {got : List Int} (h : FI ft r now js fts got) (hr : FirstIs (FLn ft now js fts) 1 (f : Int)) (hf : f < js.length) (hm : (FLn ft now js fts).L[f]? = some (letterM (j : Int))) (hq : recvL (FLn ft now js fts) f = FLn ft now (js.eraseIdx f) fts) {xa xb xc : Option Addr} {xj xk xm : Nat} {D : Nat → Prop} {w : World} (h1 : Fct.at w D (.ms (.slice xa (FLn ft now js fts).L.length xj) (FLn ft now js fts).L)) (h2 : Fct.at w D (.rw (.slice xb (FLn ft now js fts).ats.length xk) (FLn ft now js fts).ats.length 1 (icl (FLn ft now js fts).ats))) (h3 : Fct.at w D (.rw (.slice xc (FLn ft now js fts).ft.length xm) (FLn ft now js fts).ft.length 2 (fcl (FLn ft now js fts).ft))) :
    Calls Try.prog 36 #[.agg #[.int .i64 (FLn ft now js fts).nw, .slice xa (FLn ft now js fts).L.length xj, .slice xb (FLn ft now js fts).ats.length xk, .slice xc (FLn ft now js fts).ft.length xm], .int .i64 1] w fun e w' => RetLME (fun b => D b ∨ w.heap.size ≤ b) (FLn ft now (js.eraseIdx f) fts) (letterM (j : Int)) 0 e w' ∧ Below w.heap.size w w' := by
  have hf' : f < (FLn ft now js fts).L.length := by simpa [FLn] using hf
  have hlen : (FLn ft now js fts).ats.length ≤ 1000000 := by have h1 := h.1.1.2.1; have h2 := h.1.1.2.2.1; omega
  have := Receive_ok _ 1 f (letterM (j : Int)) h1 h2 h3 h.1 hr (ok_big h.1) hlen hf' (by have := List.getElem?_eq_getElem hf'; rw [this] at hm; exact Option.some.inj hm)
  rw [hq] at this
  exact this
theorem Receive_fl2 {ft fts : List (Int × Int)} {r f j : Nat} {now : Int} {js : List Nat} {got : List Int} (h : FI ft r now js fts got) (hr : FirstIs (FLn ft now js fts) 1 (f : Int)) (hf : f < js.length) (hm : (FLn ft now js fts).L[f]? = some (letterM (j : Int))) (hq : recvL (FLn ft now js fts) f = FLn ft now (js.eraseIdx f) fts) {xa xb xc : Option Addr} {xj xk xm : Nat} {D : Nat → Prop} {w : World} (h1 : Fct.at w D (.ms (.slice xa (FLn ft now js fts).L.length xj) (FLn ft now js fts).L)) (h2 : Fct.at w D (.rw (.slice xb (FLn ft now js fts).ats.length xk) (FLn ft now js fts).ats.length 1 (icl (FLn ft now js fts).ats))) (h3 : Fct.at w D (.rw (.slice xc (FLn ft now js fts).ft.length xm) (FLn ft now js fts).ft.length 2 (fcl (FLn ft now js fts).ft))) :
    Calls Try.prog 36 #[.agg #[.int .i64 (FLn ft now js fts).nw, .slice xa (FLn ft now js fts).L.length xj, .slice xb (FLn ft now js fts).ats.length xk, .slice xc (FLn ft now js fts).ft.length xm], .int .i64 1] w fun e w' => (∃ v ao k, e = .returned (.tuple #[v, .agg #[.int .i64 0, .int .i64 1, .int .i64 0, .int .i64 (j : Int), .slice ao 0 k], .int .i64 0]) ∧ RetL (fun b => D b ∨ w.heap.size ≤ b) (FLn ft now (js.eraseIdx f) fts) v w' ∧ Hid (Bs w' (fun b => D b ∨ w.heap.size ≤ b) (.slice ao 0 k) [])) ∧ Below w.heap.size w w' := by
  exact Receive_fl h hr hf hm hq h1 h2 h3
theorem Receive_fn {ft fts : List (Int × Int)} {r : Nat} {now : Int} {js : List Nat} {got : List Int} (h : FI ft r now js fts got) (hr : FirstIs (FLn ft now js fts) 1 (-1)) {xa xb xc : Option Addr} {xj xk xm : Nat} {D : Nat → Prop} {w : World} (h1 : Fct.at w D (.ms (.slice xa (FLn ft now js fts).L.length xj) (FLn ft now js fts).L)) (h2 : Fct.at w D (.rw (.slice xb (FLn ft now js fts).ats.length xk) (FLn ft now js fts).ats.length 1 (icl (FLn ft now js fts).ats))) (h3 : Fct.at w D (.rw (.slice xc (FLn ft now js fts).ft.length xm) (FLn ft now js fts).ft.length 2 (fcl (FLn ft now js fts).ft))) :
    Calls Try.prog 36 #[.agg #[.int .i64 (FLn ft now js fts).nw, .slice xa (FLn ft now js fts).L.length xj, .slice xb (FLn ft now js fts).ats.length xk, .slice xc (FLn ft now js fts).ft.length xm], .int .i64 1] w fun e w' => RetLME (fun b => D b ∨ w.heap.size ≤ b) L0 M0 7 e w' ∧ Below w.heap.size w w' := by
  exact Receive_none _ 1 h1 h2 h3 h.1 hr (by have h1 := h.1.1.2.1; have h2 := h.1.1.2.2.1; omega)
theorem Next_fl {ft fts : List (Int × Int)} {r : Nat} {now t : Int} {b : Bool} {js : List Nat} {got : List Int} (h : FI ft r now js fts got) (hn : NextIs (FLn ft now js fts) t b) {xa xb xc : Option Addr} {xj xk xm : Nat} {D : Nat → Prop} {w : World} (h1 : Fct.at w D (.ms (.slice xa (FLn ft now js fts).L.length xj) (FLn ft now js fts).L)) (h2 : Fct.at w D (.rw (.slice xb (FLn ft now js fts).ats.length xk) (FLn ft now js fts).ats.length 1 (icl (FLn ft now js fts).ats))) (h3 : Fct.at w D (.rw (.slice xc (FLn ft now js fts).ft.length xm) (FLn ft now js fts).ft.length 2 (fcl (FLn ft now js fts).ft))) :
    Calls Try.prog 39 #[.agg #[.int .i64 (FLn ft now js fts).nw, .slice xa (FLn ft now js fts).L.length xj, .slice xb (FLn ft now js fts).ats.length xk, .slice xc (FLn ft now js fts).ft.length xm]] w fun e w' => e = .returned (.tuple #[.int .i64 t, .bool b]) ∧ Below w.heap.size w w' := by
  exact Next_ok _ h1 h2 h3 hn h.1
theorem Go_fl {ft fts : List (Int × Int)} {r : Nat} {now t : Int} {js : List Nat} {got : List Int} (h : FI ft r now js fts got) (hw : wth t 1099511627776 = true) (ht : ¬ t < now) {xa xb xc : Option Addr} {xj xk xm : Nat} {D : Nat → Prop} {w : World} (h1 : Fct.at w D (.ms (.slice xa (FLn ft now js fts).L.length xj) (FLn ft now js fts).L)) (h2 : Fct.at w D (.rw (.slice xb (FLn ft now js fts).ats.length xk) (FLn ft now js fts).ats.length 1 (icl (FLn ft now js fts).ats))) (h3 : Fct.at w D (.rw (.slice xc (FLn ft now js fts).ft.length xm) (FLn ft now js fts).ft.length 2 (fcl (FLn ft now js fts).ft))) :
    Calls Try.prog 37 #[.agg #[.int .i64 (FLn ft now js fts).nw, .slice xa (FLn ft now js fts).L.length xj, .slice xb (FLn ft now js fts).ats.length xk, .slice xc (FLn ft now js fts).ft.length xm], .int .i64 t] w fun e w' => RetLE (fun b => D b ∨ w.heap.size ≤ b) (FLn ft t js fts) 0 e w' ∧ Below w.heap.size w w' := by
  exact Go_ok _ t h1 h2 h3 h.1 hw ht (ok_big h.1) (by have h1 := h.1.1.2.1; have h2 := h.1.1.2.2.1; omega)
set_option maxRecDepth 100000 in
set_option maxHeartbeats 1000000 in
theorem fat_long {D : Nat → Prop} (ft : List (Int × Int)) {fa : Option Addr} {fk : Nat} {w : World} (hx : Fct.at w D (.rw (.slice fa ft.length fk) ft.length 2 (fcl ft))) (hl : 60 < ft.length) :
    Calls Try.prog 9 #[.slice fa ft.length fk] w fun e w' => e = .returned (.bool true) ∧ Below w.heap.size w w' := by
  have E0 : Hid (Env D w [] [.rw (.slice fa ft.length fk) ft.length 2 (fcl ft)] w) := Lib.hid ((Env.start D w).arg (.rw (.slice fa ft.length fk) ft.length 2 (fcl ft)) hx)
  clear hx
  go_enter Try.func9, Try.ntmps9
  have d1 : decide ((60 : Int) < (ft.length : Int)) = true := decide_eq_true (by omega)
  go_wp2_with fail
  refine (awake_c (D := (DF D w.heap.size []))).mono ?_
  rintro e w1 ⟨rfl, hb⟩
  have E1 : Hid (Env D w [] [.rw (.slice fa ft.length fk) ft.length 2 (fcl ft)] w1) := Lib.hid (E0.out.below hb)
  clear E0 hb
  go_wp2_with fail
  refine (awake_c (D := (DF D w.heap.size []))).mono ?_
  rintro e w2 ⟨rfl, hb⟩
  have E2 : Hid (Env D w [] [.rw (.slice fa ft.length fk) ft.length 2 (fcl ft)] w2) := Lib.hid (E1.out.below hb)
  clear E1 hb
  have hfin := Lib.hid E2.out.bel
  go_wp2
  go_ret
  exact ⟨rfl, hfin.out⟩
set_option maxRecDepth 100000 in
set_option maxHeartbeats 1000000 in
theorem fat_bad {D : Nat → Prop} (ft : List (Int × Int)) {fa : Option Addr} {fk : Nat} {w : World} (hx : Fct.at w D (.rw (.slice fa ft.length fk) ft.length 2 (fcl ft))) (hl : ft.length ≤ 60) (HF0 : ¬ FatsOk ft) :
    Calls Try.prog 9 #[.slice fa ft.length fk] w fun e w' => e = .returned (.bool true) ∧ Below w.heap.size w w' := by
  have E0 : Hid (Env D w [] [.rw (.slice fa ft.length fk) ft.length 2 (fcl ft)] w) := Lib.hid ((Env.start D w).arg (.rw (.slice fa ft.length fk) ft.length 2 (fcl ft)) hx)
  clear hx
  go_enter Try.func9, Try.ntmps9
  have HF := Lib.hid HF0
  clear HF0
  have d1 : decide ((60 : Int) < (ft.length : Int)) = false := decide_eq_false (by omega)
  go_wp2_with fail
  refine (awake_c (D := (DF D w.heap.size []))).mono ?_
  rintro e w1 ⟨rfl, hb⟩
  have E1 : Hid (Env D w [] [.rw (.slice fa ft.length fk) ft.length 2 (fcl ft)] w1) := Lib.hid (E0.out.below hb)
  clear E0 hb
  go_wp2_with fail
  refine (rFates_c ft (t := false) (E1.out.fc 0 rfl) (by simp [HF.out]) (by omega)).mono ?_
  rintro e w2 ⟨rfl, hb⟩
  have E2 : Hid (Env D w [] [.rw (.slice fa ft.length fk) ft.length 2 (fcl ft)] w2) := Lib.hid (E1.out.below hb)
  clear E1 hb
  go_wp2_with fail
  refine (awake_c (D := (DF D w.heap.size []))).mono ?_
  rintro e w3 ⟨rfl, hb⟩
  have E3 : Hid (Env D w [] [.rw (.slice fa ft.length fk) ft.length 2 (fcl ft)] w3) := Lib.hid (E2.out.below hb)
  clear E2 hb
  have hfin := Lib.hid E3.out.bel
  go_wp2
  go_ret
  exact ⟨rfl, hfin.out⟩
set_option maxRecDepth 100000 in
set_option maxHeartbeats 4000000 in
theorem fat_main {D : Nat → Prop} (ft : List (Int × Int)) {fa : Option Addr} {fk : Nat} {w : World} (hx : Fct.at w D (.rw (.slice fa ft.length fk) ft.length 2 (fcl ft))) (hl : ft.length ≤ 60) (HF0 : FatsOk ft) :
    Calls Try.prog 9 #[.slice fa ft.length fk] w fun e w' => e = .returned (.bool true) ∧ Below w.heap.size w w' := by
  have E0 : Hid (Env D w [] [.rw (.slice fa ft.length fk) ft.length 2 (fcl ft)] w) := Lib.hid ((Env.start D w).arg (.rw (.slice fa ft.length fk) ft.length 2 (fcl ft)) hx)
  clear hx
  go_enter Try.func9, Try.ntmps9
  have HF := Lib.hid HF0
  clear HF0
  have d1 : decide ((60 : Int) < (ft.length : Int)) = false := decide_eq_false (by omega)
  go_wp2_with fail
  refine (awake_c (D := (DF D w.heap.size []))).mono ?_
  rintro e w1 ⟨rfl, hb⟩
  have E1 : Hid (Env D w [] [.rw (.slice fa ft.length fk) ft.length 2 (fcl ft)] w1) := Lib.hid (E0.out.below hb)
  clear E0 hb
  go_wp2_with fail
  refine (rFates_c ft (t := true) (E1.out.fc 0 rfl) (by simp [HF.out]) (by omega)).mono ?_
  rintro e w2 ⟨rfl, hb⟩
  have E2 : Hid (Env D w [] [.rw (.slice fa ft.length fk) ft.length 2 (fcl ft)] w2) := Lib.hid (E1.out.below hb)
  clear E1 hb
  go_wp2_with fail
  refine (New_fl (E2.out.fc 0 rfl) hl HF.out).mono ?_
  rintro e w3 ⟨⟨nv, rfl, na, nj, nb, nk, nc, nm, rfl, n1, n2, n3⟩, hb⟩
  have E3 : Hid (Env D w [] [.rw (.slice nc (FLn ft 0 [] (dr ft 0)).ft.length nm) (FLn ft 0 [] (dr ft 0)).ft.length 2 (fcl (FLn ft 0 [] (dr ft 0)).ft), .rw (.slice nb (FLn ft 0 [] (dr ft 0)).ats.length nk) (FLn ft 0 [] (dr ft 0)).ats.length 1 (icl (FLn ft 0 [] (dr ft 0)).ats), .ms (.slice na (FLn ft 0 [] (dr ft 0)).L.length nj) (FLn ft 0 [] (dr ft 0)).L, .rw (.slice fa ft.length fk) ft.length 2 (fcl ft)] w3) := Lib.hid (E2.out.got (E2.out.got (E2.out.got (E2.out.below hb) (.ms (.slice na (FLn ft 0 [] (dr ft 0)).L.length nj) (FLn ft 0 [] (dr ft 0)).L) n1.out) (.rw (.slice nb (FLn ft 0 [] (dr ft 0)).ats.length nk) (FLn ft 0 [] (dr ft 0)).ats.length 1 (icl (FLn ft 0 [] (dr ft 0)).ats)) n2.out) (.rw (.slice nc (FLn ft 0 [] (dr ft 0)).ft.length nm) (FLn ft 0 [] (dr ft 0)).ft.length 2 (fcl (FLn ft 0 [] (dr ft 0)).ft)) n3.out)
  clear E2 hb n1 n2 n3
  go_wp2_with fail
  have E4 : Hid (Env D w [(w3.heap.size, 64, [.int .i64 (FLn ft 0 [] (dr ft 0)).nw, .slice na (FLn ft 0 [] (dr ft 0)).L.length nj, .slice nb (FLn ft 0 [] (dr ft 0)).ats.length nk, .slice nc (FLn ft 0 [] (dr ft 0)).ft.length nm])] [.rw (.slice nc (FLn ft 0 [] (dr ft 0)).ft.length nm) (FLn ft 0 [] (dr ft 0)).ft.length 2 (fcl (FLn ft 0 [] (dr ft 0)).ft), .rw (.slice nb (FLn ft 0 [] (dr ft 0)).ats.length nk) (FLn ft 0 [] (dr ft 0)).ats.length 1 (icl (FLn ft 0 [] (dr ft 0)).ats), .ms (.slice na (FLn ft 0 [] (dr ft 0)).L.length nj) (FLn ft 0 [] (dr ft 0)).L, .rw (.slice fa ft.length fk) ft.length 2 (fcl ft)] _) := Lib.hid ((E3.out.push 64 [.int .i64 (FLn ft 0 [] (dr ft 0)).nw, .slice na (FLn ft 0 [] (dr ft 0)).L.length nj, .slice nb (FLn ft 0 [] (dr ft 0)).ats.length nk, .slice nc (FLn ft 0 [] (dr ft 0)).ft.length nm] (w3.heap.size) (by simp)))
  go_loopg [35, 4] (ft.length) (fun gk s35 s4 wr => ∃ (k : Nat) (js : List Nat) (na : Option Addr) (nj : Nat) (nb : Option Addr) (nk : Nat) (nc : Option Addr) (nm : Nat), s35 = .int .i64 (k : Int) ∧ s4 = .int .i64 0 ∧ Hid (Env D w [(w3.heap.size, 64, [.int .i64 (FLn ft 0 js (dr ft k)).nw, .slice na (FLn ft 0 js (dr ft k)).L.length nj, .slice nb (FLn ft 0 js (dr ft k)).ats.length nk, .slice nc (FLn ft 0 js (dr ft k)).ft.length nm])] [.ms (.slice na (FLn ft 0 js (dr ft k)).L.length nj) (FLn ft 0 js (dr ft k)).L, .rw (.slice nb (FLn ft 0 js (dr ft k)).ats.length nk) (FLn ft 0 js (dr ft k)).ats.length 1 (icl (FLn ft 0 js (dr ft k)).ats), .rw (.slice nc (FLn ft 0 js (dr ft k)).ft.length nm) (FLn ft 0 js (dr ft k)).ft.length 2 (fcl (FLn ft 0 js (dr ft k)).ft), .rw (.slice fa ft.length fk) ft.length 2 (fcl ft)] wr) ∧ Hid ((k ≤ ft.length ∧ gk = ft.length - k) ∧ FS ft k js))
  case atStart => exact ⟨0, [], na, nj, nb, nk, nc, nm, rfl, rfl, Lib.hid ⟨E4.out.bel, E4.out.box, ⟨E4.out.fc 2 rfl, ⟨E4.out.fc 1 rfl, ⟨E4.out.fc 0 rfl, ⟨E4.out.fc 3 rfl, trivial⟩⟩⟩⟩⟩, Lib.hid ⟨⟨Nat.zero_le _, rfl⟩, FS.zero hl HF.out⟩⟩
  case round =>
    clear E3 E4
    obtain ⟨k, js, na, nj, nb, nk, nc, nm, rfl, rfl, EL, HA⟩ := hrel
    obtain ⟨⟨a1, a2⟩, a3⟩ := HA.out
    have HS := Lib.hid a3
    clear a3 HA
    by_cases hy : k = ft.length
    rotate_left
    · have hk : k < ft.length := by omega
      have t6 : decide ((k : Int) < (ft.length : Int)) = true := decide_eq_true (by omega)
      have t7 : decide (k < ft.length) = true := decide_eq_true hk
      clear hy
      obtain ⟨js2, hq, hs2⟩ := HS.out.send hk hl HF.out
      have HQ := Lib.hid hq
      have HS2 := Lib.hid hs2
      clear hq hs2
      go_wp2_with fail
      have E5 : Hid (Env D w [(w3.heap.size, 64, [.int .i64 (FLn ft 0 js (dr ft k)).nw, .slice na (FLn ft 0 js (dr ft k)).L.length nj, .slice nb (FLn ft 0 js (dr ft k)).ats.length nk, .slice nc (FLn ft 0 js (dr ft k)).ft.length nm])] [.ms (.slice na (FLn ft 0 js (dr ft k)).L.length nj) (FLn ft 0 js (dr ft k)).L, .rw (.slice nb (FLn ft 0 js (dr ft k)).ats.length nk) (FLn ft 0 js (dr ft k)).ats.length 1 (icl (FLn ft 0 js (dr ft k)).ats), .rw (.slice nc (FLn ft 0 js (dr ft k)).ft.length nm) (FLn ft 0 js (dr ft k)).ft.length 2 (fcl (FLn ft 0 js (dr ft k)).ft), .rw (.slice fa ft.length fk) ft.length 2 (fcl ft)] (wr.drew)) := Lib.hid EL.out.drew
      clear EL
      refine wp_regionU (S := fun w' => True) [] (by kernel_rfl) (trivial) (fun hHeld => ?_)
      generalize wr.drew = w4 at *
      refine uTake (i := 1) (some 42) (v := ?_) rfl rfl (by kernel_rfl) (by kernel_rfl) (by kernel_rfl) (by kernel_rfl) (fun _ _ _ h => h) (by rfl) (by assumption) ?_ ?_
      rotate_left
      · (intro wS hSw; (try dsimp only at hSw); go_simp; try with_reducible rfl)
      try simp only [Act.put, List.setIfInBounds_toArray, List.set_cons_zero, List.set_cons_succ]
      refine uReady (rs := [0, 2]) (by kernel_rfl) (by simp) ?_
      refine (ReadyU.cons rfl (fun KK hKK => ?_) (ReadyU.cons rfl (fun KK hKK => ?_) ReadyU.nil))
      · skip
        have b1 := E5.out.bx 0 rfl
        have c1_0 := b1.cell 0 rfl
        have c1_1 := b1.cell 1 rfl
        have c1_2 := b1.cell 2 rfl
        have c1_3 := b1.cell 3 rfl
        clear b1
        go_simp
        (try dsimp only)
        clear hHeld
        refine hKK.out _ _ (trivial) (fun hHeld => ?_)
        clear hKK KK
        try simp only [Act.put, List.setIfInBounds_toArray, List.set_cons_zero, List.set_cons_succ]
        refine uReady (rs := [2]) (by kernel_rfl) (by simp) ?_
        refine ReadyU.cons rfl (fun KK hKK => ?_) ReadyU.nil
        go_simp
        refine (letter_c (D := (DF D w.heap.size [(w3.heap.size, 64, [.int .i64 (FLn ft 0 js (dr ft k)).nw, .slice na (FLn ft 0 js (dr ft k)).L.length nj, .slice nb (FLn ft 0 js (dr ft k)).ats.length nk, .slice nc (FLn ft 0 js (dr ft k)).ft.length nm])])) (k : Int)).mono ?_
        rintro e w5 ⟨⟨lta, ltk, rfl, hlt⟩, hb⟩
        have E6 : Hid (Env D w [(w3.heap.size, 64, [.int .i64 (FLn ft 0 js (dr ft k)).nw, .slice na (FLn ft 0 js (dr ft k)).L.length nj, .slice nb (FLn ft 0 js (dr ft k)).ats.length nk, .slice nc (FLn ft 0 js (dr ft k)).ft.length nm])] [.bs (.slice lta (letterM (k : Int)).body.length ltk) (letterM (k : Int)).body, .ms (.slice na (FLn ft 0 js (dr ft k)).L.length nj) (FLn ft 0 js (dr ft k)).L, .rw (.slice nb (FLn ft 0 js (dr ft k)).ats.length nk) (FLn ft 0 js (dr ft k)).ats.length 1 (icl (FLn ft 0 js (dr ft k)).ats), .rw (.slice nc (FLn ft 0 js (dr ft k)).ft.length nm) (FLn ft 0 js (dr ft k)).ft.length 2 (fcl (FLn ft 0 js (dr ft k)).ft), .rw (.slice fa ft.length fk) ft.length 2 (fcl ft)] w5) := Lib.hid (E5.out.got (E5.out.below hb) (.bs (.slice lta (letterM (k : Int)).body.length ltk) (letterM (k : Int)).body) hlt.out)
        clear c1_0 c1_1 c1_2 c1_3 E5 hb hlt
        (try dsimp only)
        clear hHeld
        refine hKK.out _ _ (trivial) (fun hHeld => ?_)
        clear hKK KK
        try simp only [Act.put, List.setIfInBounds_toArray, List.set_cons_zero, List.set_cons_succ]
        refine uReady (rs := [3]) (by kernel_rfl) (by simp) ?_
        refine ReadyU.cons rfl (fun KK hKK => ?_) ReadyU.nil
        go_simp
        refine (Send_fl HS.out (by omega) HQ.out (E6.out.fc 1 rfl) (E6.out.fc 2 rfl) (E6.out.fc 3 rfl) (E6.out.fc 0 rfl)).mono ?_
        rintro e w6 ⟨⟨vv, rfl, va, vj, vb, vk, vc, vm, rfl, v1, v2, v3⟩, hb⟩
        have E7 : Hid (Env D w [(w3.heap.size, 64, [.int .i64 (FLn ft 0 js (dr ft k)).nw, .slice na (FLn ft 0 js (dr ft k)).L.length nj, .slice nb (FLn ft 0 js (dr ft k)).ats.length nk, .slice nc (FLn ft 0 js (dr ft k)).ft.length nm])] [.rw (.slice vc (FLn ft 0 js2 (dr ft (k + 1))).ft.length vm) (FLn ft 0 js2 (dr ft (k + 1))).ft.length 2 (fcl (FLn ft 0 js2 (dr ft (k + 1))).ft), .rw (.slice vb (FLn ft 0 js2 (dr ft (k + 1))).ats.length vk) (FLn ft 0 js2 (dr ft (k + 1))).ats.length 1 (icl (FLn ft 0 js2 (dr ft (k + 1))).ats), .ms (.slice va (FLn ft 0 js2 (dr ft (k + 1))).L.length vj) (FLn ft 0 js2 (dr ft (k + 1))).L, .bs (.slice lta (letterM (k : Int)).body.length ltk) (letterM (k : Int)).body, .ms (.slice na (FLn ft 0 js (dr ft k)).L.length nj) (FLn ft 0 js (dr ft k)).L, .rw (.slice nb (FLn ft 0 js (dr ft k)).ats.length nk) (FLn ft 0 js (dr ft k)).ats.length 1 (icl (FLn ft 0 js (dr ft k)).ats), .rw (.slice nc (FLn ft 0 js (dr ft k)).ft.length nm) (FLn ft 0 js (dr ft k)).ft.length 2 (fcl (FLn ft 0 js (dr ft k)).ft), .rw (.slice fa ft.length fk) ft.length 2 (fcl ft)] w6) := Lib.hid (E6.out.got (E6.out.got (E6.out.got (E6.out.below hb) (.ms (.slice va (FLn ft 0 js2 (dr ft (k + 1))).L.length vj) (FLn ft 0 js2 (dr ft (k + 1))).L) v1.out) (.rw (.slice vb (FLn ft 0 js2 (dr ft (k + 1))).ats.length vk) (FLn ft 0 js2 (dr ft (k + 1))).ats.length 1 (icl (FLn ft 0 js2 (dr ft (k + 1))).ats)) v2.out) (.rw (.slice vc (FLn ft 0 js2 (dr ft (k + 1))).ft.length vm) (FLn ft 0 js2 (dr ft (k + 1))).ft.length 2 (fcl (FLn ft 0 js2 (dr ft (k + 1))).ft)) v3.out)
        clear E6 hb v1 v2 v3
        (try dsimp only)
        clear hHeld
        refine hKK.out _ _ (trivial) (fun hHeld => ?_)
        clear hKK KK
        try simp only [Act.put, List.setIfInBounds_toArray, List.set_cons_zero, List.set_cons_succ]
        refine uTake (i := 4) (some 40) (v := ?_) rfl rfl (by kernel_rfl) (by kernel_rfl) (by kernel_rfl) (by kernel_rfl) (fun _ _ _ h => h) (by rfl) (by assumption) ?_ ?_
        rotate_left
        · (intro wS hSw; (try dsimp only at hSw); go_simp; try with_reducible rfl)
        try simp only [Act.put, List.setIfInBounds_toArray, List.set_cons_zero, List.set_cons_succ]
        refine uTake (i := 5) (some 45) (v := ?_) rfl rfl (by kernel_rfl) (by kernel_rfl) (by kernel_rfl) (by kernel_rfl) (fun _ _ _ h => h) (by rfl) (by assumption) ?_ ?_
        rotate_left
        · (intro wS hSw; (try dsimp only at hSw); go_simp; try with_reducible rfl)
        try simp only [Act.put, List.setIfInBounds_toArray, List.set_cons_zero, List.set_cons_succ]
        refine uTake (i := 6) (some 46) (v := ?_) rfl rfl (by kernel_rfl) (by kernel_rfl) (by kernel_rfl) (by kernel_rfl) (fun _ _ _ h => h) (by rfl) (by assumption) ?_ ?_
        rotate_left
        · (intro wS hSw; (try dsimp only at hSw); go_simp; try with_reducible rfl)
        try simp only [Act.put, List.setIfInBounds_toArray, List.set_cons_zero, List.set_cons_succ]
        have b2 := E7.out.bx 0 rfl
        have c2_0 := b2.cell 0 rfl
        have c2_1 := b2.cell 1 rfl
        have c2_2 := b2.cell 2 rfl
        have c2_3 := b2.cell 3 rfl
        have f2_0 := b2.frozen 0
        have f2_1 := b2.frozen 1
        have f2_2 := b2.frozen 2
        have f2_3 := b2.frozen 3
        clear b2
        refine uReady (rs := [7]) (by kernel_rfl) (by simp) ?_
        refine ReadyU.cons rfl (fun KK hKK => ?_) ReadyU.nil
        go_simp
        have E8 : Hid (Env D w [(w3.heap.size, 64, [.int .i64 (FLn ft 0 js2 (dr ft (k + 1))).nw, .slice va (FLn ft 0 js2 (dr ft (k + 1))).L.length vj, .slice vb (FLn ft 0 js2 (dr ft (k + 1))).ats.length vk, .slice vc (FLn ft 0 js2 (dr ft (k + 1))).ft.length vm])] [.rw (.slice vc (FLn ft 0 js2 (dr ft (k + 1))).ft.length vm) (FLn ft 0 js2 (dr ft (k + 1))).ft.length 2 (fcl (FLn ft 0 js2 (dr ft (k + 1))).ft), .rw (.slice vb (FLn ft 0 js2 (dr ft (k + 1))).ats.length vk) (FLn ft 0 js2 (dr ft (k + 1))).ats.length 1 (icl (FLn ft 0 js2 (dr ft (k + 1))).ats), .ms (.slice va (FLn ft 0 js2 (dr ft (k + 1))).L.length vj) (FLn ft 0 js2 (dr ft (k + 1))).L, .bs (.slice lta (letterM (k : Int)).body.length ltk) (letterM (k : Int)).body, .ms (.slice na (FLn ft 0 js (dr ft k)).L.length nj) (FLn ft 0 js (dr ft k)).L, .rw (.slice nb (FLn ft 0 js (dr ft k)).ats.length nk) (FLn ft 0 js (dr ft k)).ats.length 1 (icl (FLn ft 0 js (dr ft k)).ats), .rw (.slice nc (FLn ft 0 js (dr ft k)).ft.length nm) (FLn ft 0 js (dr ft k)).ft.length 2 (fcl (FLn ft 0 js (dr ft k)).ft), .rw (.slice fa ft.length fk) ft.length 2 (fcl ft)] _) := Lib.hid (((((E7.out.set 0 0 (.int .i64 (FLn ft 0 js2 (dr ft (k + 1))).nw) rfl).set 0 1 (.slice va (FLn ft 0 js2 (dr ft (k + 1))).L.length vj) rfl).set 0 2 (.slice vb (FLn ft 0 js2 (dr ft (k + 1))).ats.length vk) rfl).set 0 3 (.slice vc (FLn ft 0 js2 (dr ft (k + 1))).ft.length vm) rfl))
        (try dsimp only)
        clear hHeld
        refine hKK.out _ _ (trivial) (fun hHeld => ?_)
        clear hKK KK
        try simp only [Act.put, List.setIfInBounds_toArray, List.set_cons_zero, List.set_cons_succ]
        refine uTake (i := 8) (some 4) (v := ?_) rfl rfl (by kernel_rfl) (by kernel_rfl) (by kernel_rfl) (by kernel_rfl) (fun _ _ _ h => h) (by rfl) (by assumption) ?_ ?_
        rotate_left
        · (intro wS hSw; (try dsimp only at hSw); go_simp; try with_reducible rfl)
        try simp only [Act.put, List.setIfInBounds_toArray, List.set_cons_zero, List.set_cons_succ]
        refine uDone (by kernel_rfl) ?_ _
        clear c2_0 c2_1 c2_2 c2_3 f2_0 f2_1 f2_2 f2_3 E7
        generalize (((w6.setCell ⟨w3.heap.size, 0, none⟩ (.int .i64 (FLn ft 0 js2 (dr ft (k + 1))).nw)).setCell ⟨w3.heap.size, 1, none⟩ (.slice va (FLn ft 0 js2 (dr ft (k + 1))).L.length vj)).setCell ⟨w3.heap.size, 2, none⟩ (.slice vb (FLn ft 0 js2 (dr ft (k + 1))).ats.length vk)).setCell ⟨w3.heap.size, 3, none⟩ (.slice vc (FLn ft 0 js2 (dr ft (k + 1))).ft.length vm) = w7 at *
        have hZ := E8.out
        have EZ : Hid (Env D w [(w3.heap.size, 64, [.int .i64 (FLn ft 0 js2 (dr ft (k + 1))).nw, .slice va (FLn ft 0 js2 (dr ft (k + 1))).L.length vj, .slice vb (FLn ft 0 js2 (dr ft (k + 1))).ats.length vk, .slice vc (FLn ft 0 js2 (dr ft (k + 1))).ft.length vm])] [.ms (.slice va (FLn ft 0 js2 (dr ft (k + 1))).L.length vj) (FLn ft 0 js2 (dr ft (k + 1))).L, .rw (.slice vb (FLn ft 0 js2 (dr ft (k + 1))).ats.length vk) (FLn ft 0 js2 (dr ft (k + 1))).ats.length 1 (icl (FLn ft 0 js2 (dr ft (k + 1))).ats), .rw (.slice vc (FLn ft 0 js2 (dr ft (k + 1))).ft.length vm) (FLn ft 0 js2 (dr ft (k + 1))).ft.length 2 (fcl (FLn ft 0 js2 (dr ft (k + 1))).ft), .rw (.slice fa ft.length fk) ft.length 2 (fcl ft)] _) := Lib.hid ⟨hZ.bel, hZ.box, ⟨hZ.fc 2 rfl, ⟨hZ.fc 1 rfl, ⟨hZ.fc 0 rfl, ⟨hZ.fc 7 rfl, trivial⟩⟩⟩⟩⟩
        clear hZ
        go_wp2
        go_roundg (ft.length - (k + 1))
        case rel => exact ⟨k + 1, js2, va, vj, vb, vk, vc, vm, rfl, rfl, EZ, Lib.hid ⟨⟨by omega, rfl⟩, HS2.out⟩⟩
        case measure => exact by omega
      · skip
        go_simp
        refine (letter_c (D := (DF D w.heap.size [(w3.heap.size, 64, [.int .i64 (FLn ft 0 js (dr ft k)).nw, .slice na (FLn ft 0 js (dr ft k)).L.length nj, .slice nb (FLn ft 0 js (dr ft k)).ats.length nk, .slice nc (FLn ft 0 js (dr ft k)).ft.length nm])])) (k : Int)).mono ?_
        rintro e w5 ⟨⟨lta, ltk, rfl, hlt⟩, hb⟩
        have E6 : Hid (Env D w [(w3.heap.size, 64, [.int .i64 (FLn ft 0 js (dr ft k)).nw, .slice na (FLn ft 0 js (dr ft k)).L.length nj, .slice nb (FLn ft 0 js (dr ft k)).ats.length nk, .slice nc (FLn ft 0 js (dr ft k)).ft.length nm])] [.bs (.slice lta (letterM (k : Int)).body.length ltk) (letterM (k : Int)).body, .ms (.slice na (FLn ft 0 js (dr ft k)).L.length nj) (FLn ft 0 js (dr ft k)).L, .rw (.slice nb (FLn ft 0 js (dr ft k)).ats.length nk) (FLn ft 0 js (dr ft k)).ats.length 1 (icl (FLn ft 0 js (dr ft k)).ats), .rw (.slice nc (FLn ft 0 js (dr ft k)).ft.length nm) (FLn ft 0 js (dr ft k)).ft.length 2 (fcl (FLn ft 0 js (dr ft k)).ft), .rw (.slice fa ft.length fk) ft.length 2 (fcl ft)] w5) := Lib.hid (E5.out.got (E5.out.below hb) (.bs (.slice lta (letterM (k : Int)).body.length ltk) (letterM (k : Int)).body) hlt.out)
        clear E5 hb hlt
        (try dsimp only)
        clear hHeld
        refine hKK.out _ _ (trivial) (fun hHeld => ?_)
        clear hKK KK
        try simp only [Act.put, List.setIfInBounds_toArray, List.set_cons_zero, List.set_cons_succ]
        have b1 := E6.out.bx 0 rfl
        have c1_0 := b1.cell 0 rfl
        have c1_1 := b1.cell 1 rfl
        have c1_2 := b1.cell 2 rfl
        have c1_3 := b1.cell 3 rfl
        clear b1
        refine uReady (rs := [0]) (by kernel_rfl) (by simp) ?_
        refine ReadyU.cons rfl (fun KK hKK => ?_) ReadyU.nil
        go_simp
        (try dsimp only)
        clear hHeld
        refine hKK.out _ _ (trivial) (fun hHeld => ?_)
        clear hKK KK
        try simp only [Act.put, List.setIfInBounds_toArray, List.set_cons_zero, List.set_cons_succ]
        refine uReady (rs := [3]) (by kernel_rfl) (by simp) ?_
        refine ReadyU.cons rfl (fun KK hKK => ?_) ReadyU.nil
        go_simp
        refine (Send_fl HS.out (by omega) HQ.out (E6.out.fc 1 rfl) (E6.out.fc 2 rfl) (E6.out.fc 3 rfl) (E6.out.fc 0 rfl)).mono ?_
        rintro e w6 ⟨⟨vv, rfl, va, vj, vb, vk, vc, vm, rfl, v1, v2, v3⟩, hb⟩
        have E7 : Hid (Env D w [(w3.heap.size, 64, [.int .i64 (FLn ft 0 js (dr ft k)).nw, .slice na (FLn ft 0 js (dr ft k)).L.length nj, .slice nb (FLn ft 0 js (dr ft k)).ats.length nk, .slice nc (FLn ft 0 js (dr ft k)).ft.length nm])] [.rw (.slice vc (FLn ft 0 js2 (dr ft (k + 1))).ft.length vm) (FLn ft 0 js2 (dr ft (k + 1))).ft.length 2 (fcl (FLn ft 0 js2 (dr ft (k + 1))).ft), .rw (.slice vb (FLn ft 0 js2 (dr ft (k + 1))).ats.length vk) (FLn ft 0 js2 (dr ft (k + 1))).ats.length 1 (icl (FLn ft 0 js2 (dr ft (k + 1))).ats), .ms (.slice va (FLn ft 0 js2 (dr ft (k + 1))).L.length vj) (FLn ft 0 js2 (dr ft (k + 1))).L, .bs (.slice lta (letterM (k : Int)).body.length ltk) (letterM (k : Int)).body, .ms (.slice na (FLn ft 0 js (dr ft k)).L.length nj) (FLn ft 0 js (dr ft k)).L, .rw (.slice nb (FLn ft 0 js (dr ft k)).ats.length nk) (FLn ft 0 js (dr ft k)).ats.length 1 (icl (FLn ft 0 js (dr ft k)).ats), .rw (.slice nc (FLn ft 0 js (dr ft k)).ft.length nm) (FLn ft 0 js (dr ft k)).ft.length 2 (fcl (FLn ft 0 js (dr ft k)).ft), .rw (.slice fa ft.length fk) ft.length 2 (fcl ft)] w6) := Lib.hid (E6.out.got (E6.out.got (E6.out.got (E6.out.below hb) (.ms (.slice va (FLn ft 0 js2 (dr ft (k + 1))).L.length vj) (FLn ft 0 js2 (dr ft (k + 1))).L) v1.out) (.rw (.slice vb (FLn ft 0 js2 (dr ft (k + 1))).ats.length vk) (FLn ft 0 js2 (dr ft (k + 1))).ats.length 1 (icl (FLn ft 0 js2 (dr ft (k + 1))).ats)) v2.out) (.rw (.slice vc (FLn ft 0 js2 (dr ft (k + 1))).ft.length vm) (FLn ft 0 js2 (dr ft (k + 1))).ft.length 2 (fcl (FLn ft 0 js2 (dr ft (k + 1))).ft)) v3.out)
        clear c1_0 c1_1 c1_2 c1_3 E6 hb v1 v2 v3
        (try dsimp only)
        clear hHeld
        refine hKK.out _ _ (trivial) (fun hHeld => ?_)
        clear hKK KK
        try simp only [Act.put, List.setIfInBounds_toArray, List.set_cons_zero, List.set_cons_succ]
        refine uTake (i := 4) (some 40) (v := ?_) rfl rfl (by kernel_rfl) (by kernel_rfl) (by kernel_rfl) (by kernel_rfl) (fun _ _ _ h => h) (by rfl) (by assumption) ?_ ?_
        rotate_left
        · (intro wS hSw; (try dsimp only at hSw); go_simp; try with_reducible rfl)
        try simp only [Act.put, List.setIfInBounds_toArray, List.set_cons_zero, List.set_cons_succ]
        refine uTake (i := 5) (some 45) (v := ?_) rfl rfl (by kernel_rfl) (by kernel_rfl) (by kernel_rfl) (by kernel_rfl) (fun _ _ _ h => h) (by rfl) (by assumption) ?_ ?_
        rotate_left
        · (intro wS hSw; (try dsimp only at hSw); go_simp; try with_reducible rfl)
        try simp only [Act.put, List.setIfInBounds_toArray, List.set_cons_zero, List.set_cons_succ]
        refine uTake (i := 6) (some 46) (v := ?_) rfl rfl (by kernel_rfl) (by kernel_rfl) (by kernel_rfl) (by kernel_rfl) (fun _ _ _ h => h) (by rfl) (by assumption) ?_ ?_
        rotate_left
        · (intro wS hSw; (try dsimp only at hSw); go_simp; try with_reducible rfl)
        try simp only [Act.put, List.setIfInBounds_toArray, List.set_cons_zero, List.set_cons_succ]
        have b2 := E7.out.bx 0 rfl
        have c2_0 := b2.cell 0 rfl
        have c2_1 := b2.cell 1 rfl
        have c2_2 := b2.cell 2 rfl
        have c2_3 := b2.cell 3 rfl
        have f2_0 := b2.frozen 0
        have f2_1 := b2.frozen 1
        have f2_2 := b2.frozen 2
        have f2_3 := b2.frozen 3
        clear b2
        refine uReady (rs := [7]) (by kernel_rfl) (by simp) ?_
        refine ReadyU.cons rfl (fun KK hKK => ?_) ReadyU.nil
        go_simp
        have E8 : Hid (Env D w [(w3.heap.size, 64, [.int .i64 (FLn ft 0 js2 (dr ft (k + 1))).nw, .slice va (FLn ft 0 js2 (dr ft (k + 1))).L.length vj, .slice vb (FLn ft 0 js2 (dr ft (k + 1))).ats.length vk, .slice vc (FLn ft 0 js2 (dr ft (k + 1))).ft.length vm])] [.rw (.slice vc (FLn ft 0 js2 (dr ft (k + 1))).ft.length vm) (FLn ft 0 js2 (dr ft (k + 1))).ft.length 2 (fcl (FLn ft 0 js2 (dr ft (k + 1))).ft), .rw (.slice vb (FLn ft 0 js2 (dr ft (k + 1))).ats.length vk) (FLn ft 0 js2 (dr ft (k + 1))).ats.length 1 (icl (FLn ft 0 js2 (dr ft (k + 1))).ats), .ms (.slice va (FLn ft 0 js2 (dr ft (k + 1))).L.length vj) (FLn ft 0 js2 (dr ft (k + 1))).L, .bs (.slice lta (letterM (k : Int)).body.length ltk) (letterM (k : Int)).body, .ms (.slice na (FLn ft 0 js (dr ft k)).L.length nj) (FLn ft 0 js (dr ft k)).L, .rw (.slice nb (FLn ft 0 js (dr ft k)).ats.length nk) (FLn ft 0 js (dr ft k)).ats.length 1 (icl (FLn ft 0 js (dr ft k)).ats), .rw (.slice nc (FLn ft 0 js (dr ft k)).ft.length nm) (FLn ft 0 js (dr ft k)).ft.length 2 (fcl (FLn ft 0 js (dr ft k)).ft), .rw (.slice fa ft.length fk) ft.length 2 (fcl ft)] _) := Lib.hid (((((E7.out.set 0 0 (.int .i64 (FLn ft 0 js2 (dr ft (k + 1))).nw) rfl).set 0 1 (.slice va (FLn ft 0 js2 (dr ft (k + 1))).L.length vj) rfl).set 0 2 (.slice vb (FLn ft 0 js2 (dr ft (k + 1))).ats.length vk) rfl).set 0 3 (.slice vc (FLn ft 0 js2 (dr ft (k + 1))).ft.length vm) rfl))
        (try dsimp only)
        clear hHeld
        refine hKK.out _ _ (trivial) (fun hHeld => ?_)
        clear hKK KK
        try simp only [Act.put, List.setIfInBounds_toArray, List.set_cons_zero, List.set_cons_succ]
        refine uTake (i := 8) (some 4) (v := ?_) rfl rfl (by kernel_rfl) (by kernel_rfl) (by kernel_rfl) (by kernel_rfl) (fun _ _ _ h => h) (by rfl) (by assumption) ?_ ?_
        rotate_left
        · (intro wS hSw; (try dsimp only at hSw); go_simp; try with_reducible rfl)
        try simp only [Act.put, List.setIfInBounds_toArray, List.set_cons_zero, List.set_cons_succ]
        refine uDone (by kernel_rfl) ?_ _
        clear c2_0 c2_1 c2_2 c2_3 f2_0 f2_1 f2_2 f2_3 E7
        generalize (((w6.setCell ⟨w3.heap.size, 0, none⟩ (.int .i64 (FLn ft 0 js2 (dr ft (k + 1))).nw)).setCell ⟨w3.heap.size, 1, none⟩ (.slice va (FLn ft 0 js2 (dr ft (k + 1))).L.length vj)).setCell ⟨w3.heap.size, 2, none⟩ (.slice vb (FLn ft 0 js2 (dr ft (k + 1))).ats.length vk)).setCell ⟨w3.heap.size, 3, none⟩ (.slice vc (FLn ft 0 js2 (dr ft (k + 1))).ft.length vm) = w7 at *
        have hZ := E8.out
        have EZ : Hid (Env D w [(w3.heap.size, 64, [.int .i64 (FLn ft 0 js2 (dr ft (k + 1))).nw, .slice va (FLn ft 0 js2 (dr ft (k + 1))).L.length vj, .slice vb (FLn ft 0 js2 (dr ft (k + 1))).ats.length vk, .slice vc (FLn ft 0 js2 (dr ft (k + 1))).ft.length vm])] [.ms (.slice va (FLn ft 0 js2 (dr ft (k + 1))).L.length vj) (FLn ft 0 js2 (dr ft (k + 1))).L, .rw (.slice vb (FLn ft 0 js2 (dr ft (k + 1))).ats.length vk) (FLn ft 0 js2 (dr ft (k + 1))).ats.length 1 (icl (FLn ft 0 js2 (dr ft (k + 1))).ats), .rw (.slice vc (FLn ft 0 js2 (dr ft (k + 1))).ft.length vm) (FLn ft 0 js2 (dr ft (k + 1))).ft.length 2 (fcl (FLn ft 0 js2 (dr ft (k + 1))).ft), .rw (.slice fa ft.length fk) ft.length 2 (fcl ft)] _) := Lib.hid ⟨hZ.bel, hZ.box, ⟨hZ.fc 2 rfl, ⟨hZ.fc 1 rfl, ⟨hZ.fc 0 rfl, ⟨hZ.fc 7 rfl, trivial⟩⟩⟩⟩⟩
        clear hZ
        go_wp2
        go_roundg (ft.length - (k + 1))
        case rel => exact ⟨k + 1, js2, va, vj, vb, vk, vc, vm, rfl, rfl, EZ, Lib.hid ⟨⟨by omega, rfl⟩, HS2.out⟩⟩
        case measure => exact by omega
    have t6 : decide ((k : Int) < (ft.length : Int)) = false := decide_eq_false (by omega)
    have t7 : decide (k < ft.length) = false := decide_eq_false (by omega)
    have HI0 := Lib.hid (FS.toFI (by rw [← hy]; exact HS.out) hl)
    obtain rfl := hy
    clear HS a1 a2
    go_wp2_with (at_make; refine wpl_makeI rfl _ _ rfl EL.out ft.length rfl rfl (by omega) ?_)
    intro wm gg Em
    clear EL
    go_wp2_with fail
    go_loopg [53] (600) (fun gk s53 wr => ∃ (r : Nat) (now : Int) (js : List Nat) (got : List Int) (na : Option Addr) (nj : Nat) (nb : Option Addr) (nk : Nat) (nc : Option Addr) (nm : Nat), s53 = .int .i64 (r : Int) ∧ Hid (Env D w [(gg, 3, icl got), (w3.heap.size, 64, [.int .i64 (FLn ft now js (dr ft ft.length)).nw, .slice na (FLn ft now js (dr ft ft.length)).L.length nj, .slice nb (FLn ft now js (dr ft ft.length)).ats.length nk, .slice nc (FLn ft now js (dr ft ft.length)).ft.length nm])] [.ms (.slice na (FLn ft now js (dr ft ft.length)).L.length nj) (FLn ft now js (dr ft ft.length)).L, .rw (.slice nb (FLn ft now js (dr ft ft.length)).ats.length nk) (FLn ft now js (dr ft ft.length)).ats.length 1 (icl (FLn ft now js (dr ft ft.length)).ats), .rw (.slice nc (FLn ft now js (dr ft ft.length)).ft.length nm) (FLn ft now js (dr ft ft.length)).ft.length 2 (fcl (FLn ft now js (dr ft ft.length)).ft), .rw (.slice fa ft.length fk) ft.length 2 (fcl ft)] wr) ∧ Hid ((r ≤ 600 ∧ gk = 600 - r) ∧ FI ft r now js (dr ft ft.length) got))
    case atStart => exact ⟨0, 0, js, List.replicate ft.length 0, na, nj, nb, nk, nc, nm, rfl, Lib.hid ⟨Em.out.bel, Em.out.box, ⟨Em.out.fc 0 rfl, ⟨Em.out.fc 1 rfl, ⟨Em.out.fc 2 rfl, ⟨Em.out.fc 3 rfl, trivial⟩⟩⟩⟩⟩, Lib.hid ⟨⟨Nat.zero_le _, rfl⟩, HI0.out⟩⟩
    case round =>
      clear Em
      obtain ⟨r, now, js, got, na, nj, nb, nk, nc, nm, rfl, EL, HA⟩ := hrel
      obtain ⟨⟨a1, a2⟩, a3⟩ := HA.out
      have hr := a3.r
      have HI := Lib.hid a3
      clear a3 HA
      have t6 : decide ((r : Int) < 600) = true := decide_eq_true (by omega)
      rcases first_or (FLn ft now js (dr ft ft.length)) 1 with ⟨f0, hf, hfi, har⟩ | ⟨hfn, hno⟩
      rotate_left
      · have HN := Lib.hid hfn
        clear hfn
        rcases js with _ | ⟨j0, js⟩
        rotate_left
        · obtain ⟨n1, n2, n3, n4⟩ := HI.out.next HF.out hno
          have N1 := Lib.hid n1
          have N2 := Lib.hid n2
          have N3 := Lib.hid n3
          have N4 := Lib.hid n4
          clear n1 n2 n3 n4 hno
          have b1 := EL.out.bx 1 rfl
          have c1_0 := b1.cell 0 rfl
          have c1_1 := b1.cell 1 rfl
          have c1_2 := b1.cell 2 rfl
          have c1_3 := b1.cell 3 rfl
          clear b1
          go_wp2_with fail
          refine (Receive_fn HI.out HN.out (EL.out.fc 0 rfl) (EL.out.fc 1 rfl) (EL.out.fc 2 rfl)).mono ?_
          rintro e w4 ⟨⟨zv, zo, zq, rfl, ⟨za, zj, zb, zk, zc, zm, rfl, z1, z2, z3⟩, z4⟩, hb⟩
          have E5 : Hid (Env D w [(gg, 3, icl got), (w3.heap.size, 64, [.int .i64 (FLn ft now (j0 :: js) (dr ft ft.length)).nw, .slice na (FLn ft now (j0 :: js) (dr ft ft.length)).L.length nj, .slice nb (FLn ft now (j0 :: js) (dr ft ft.length)).ats.length nk, .slice nc (FLn ft now (j0 :: js) (dr ft ft.length)).ft.length nm])] [.bs (.slice zo (M0).body.length zq) (M0).body, .rw (.slice zc (L0).ft.length zm) (L0).ft.length 2 (fcl (L0).ft), .rw (.slice zb (L0).ats.length zk) (L0).ats.length 1 (icl (L0).ats), .ms (.slice za (L0).L.length zj) (L0).L, .ms (.slice na (FLn ft now (j0 :: js) (dr ft ft.length)).L.length nj) (FLn ft now (j0 :: js) (dr ft ft.length)).L, .rw (.slice nb (FLn ft now (j0 :: js) (dr ft ft.length)).ats.length nk) (FLn ft now (j0 :: js) (dr ft ft.length)).ats.length 1 (icl (FLn ft now (j0 :: js) (dr ft ft.length)).ats), .rw (.slice nc (FLn ft now (j0 :: js) (dr ft ft.length)).ft.length nm) (FLn ft now (j0 :: js) (dr ft ft.length)).ft.length 2 (fcl (FLn ft now (j0 :: js) (dr ft ft.length)).ft), .rw (.slice fa ft.length fk) ft.length 2 (fcl ft)] w4) := Lib.hid (EL.out.got (EL.out.got (EL.out.got (EL.out.got (EL.out.below hb) (.ms (.slice za (L0).L.length zj) (L0).L) z1.out) (.rw (.slice zb (L0).ats.length zk) (L0).ats.length 1 (icl (L0).ats)) z2.out) (.rw (.slice zc (L0).ft.length zm) (L0).ft.length 2 (fcl (L0).ft)) z3.out) (.bs (.slice zo (M0).body.length zq) (M0).body) z4.out)
          clear c1_0 c1_1 c1_2 c1_3 EL hb z1 z2 z3 z4
          have E6 : Hid (Env D w [(w4.heap.size + 1, 24, [.int .i64 M0.fr, .int .i64 M0.to_, .int .i64 M0.kd, .int .i64 M0.nm, .slice zo (M0).body.length zq]), (w4.heap.size, 64, [.int .i64 (L0).nw, .slice za (L0).L.length zj, .slice zb (L0).ats.length zk, .slice zc (L0).ft.length zm]), (gg, 3, icl got), (w3.heap.size, 64, [.int .i64 (FLn ft now (j0 :: js) (dr ft ft.length)).nw, .slice na (FLn ft now (j0 :: js) (dr ft ft.length)).L.length nj, .slice nb (FLn ft now (j0 :: js) (dr ft ft.length)).ats.length nk, .slice nc (FLn ft now (j0 :: js) (dr ft ft.length)).ft.length nm])] [.bs (.slice zo (M0).body.length zq) (M0).body, .rw (.slice zc (L0).ft.length zm) (L0).ft.length 2 (fcl (L0).ft), .rw (.slice zb (L0).ats.length zk) (L0).ats.length 1 (icl (L0).ats), .ms (.slice za (L0).L.length zj) (L0).L, .ms (.slice na (FLn ft now (j0 :: js) (dr ft ft.length)).L.length nj) (FLn ft now (j0 :: js) (dr ft ft.length)).L, .rw (.slice nb (FLn ft now (j0 :: js) (dr ft ft.length)).ats.length nk) (FLn ft now (j0 :: js) (dr ft ft.length)).ats.length 1 (icl (FLn ft now (j0 :: js) (dr ft ft.length)).ats), .rw (.slice nc (FLn ft now (j0 :: js) (dr ft ft.length)).ft.length nm) (FLn ft now (j0 :: js) (dr ft ft.length)).ft.length 2 (fcl (FLn ft now (j0 :: js) (dr ft ft.length)).ft), .rw (.slice fa ft.length fk) ft.length 2 (fcl ft)] _) := Lib.hid (((E5.out.push 64 [.int .i64 (L0).nw, .slice za (L0).L.length zj, .slice zb (L0).ats.length zk, .slice zc (L0).ft.length zm] (w4.heap.size) (by simp)).push 24 [.int .i64 M0.fr, .int .i64 M0.to_, .int .i64 M0.kd, .int .i64 M0.nm, .slice zo (M0).body.length zq] (w4.heap.size + 1) (by simp)))
          have b2 := E6.out.bx 3 rfl
          have c2_0 := b2.cell 0 rfl
          have c2_1 := b2.cell 1 rfl
          have c2_2 := b2.cell 2 rfl
          have c2_3 := b2.cell 3 rfl
          clear b2
          go_wp2_with fail
          refine (Next_fl HI.out N1.out (E6.out.fc 4 rfl) (E6.out.fc 5 rfl) (E6.out.fc 6 rfl)).mono ?_
          rintro e w5 ⟨rfl, hb⟩
          have E7 : Hid (Env D w [(w4.heap.size + 1, 24, [.int .i64 M0.fr, .int .i64 M0.to_, .int .i64 M0.kd, .int .i64 M0.nm, .slice zo (M0).body.length zq]), (w4.heap.size, 64, [.int .i64 (L0).nw, .slice za (L0).L.length zj, .slice zb (L0).ats.length zk, .slice zc (L0).ft.length zm]), (gg, 3, icl got), (w3.heap.size, 64, [.int .i64 (FLn ft now (j0 :: js) (dr ft ft.length)).nw, .slice na (FLn ft now (j0 :: js) (dr ft ft.length)).L.length nj, .slice nb (FLn ft now (j0 :: js) (dr ft ft.length)).ats.length nk, .slice nc (FLn ft now (j0 :: js) (dr ft ft.length)).ft.length nm])] [.bs (.slice zo (M0).body.length zq) (M0).body, .rw (.slice zc (L0).ft.length zm) (L0).ft.length 2 (fcl (L0).ft), .rw (.slice zb (L0).ats.length zk) (L0).ats.length 1 (icl (L0).ats), .ms (.slice za (L0).L.length zj) (L0).L, .ms (.slice na (FLn ft now (j0 :: js) (dr ft ft.length)).L.length nj) (FLn ft now (j0 :: js) (dr ft ft.length)).L, .rw (.slice nb (FLn ft now (j0 :: js) (dr ft ft.length)).ats.length nk) (FLn ft now (j0 :: js) (dr ft ft.length)).ats.length 1 (icl (FLn ft now (j0 :: js) (dr ft ft.length)).ats), .rw (.slice nc (FLn ft now (j0 :: js) (dr ft ft.length)).ft.length nm) (FLn ft now (j0 :: js) (dr ft ft.length)).ft.length 2 (fcl (FLn ft now (j0 :: js) (dr ft ft.length)).ft), .rw (.slice fa ft.length fk) ft.length 2 (fcl ft)] w5) := Lib.hid (E6.out.below hb)
          clear c2_0 c2_1 c2_2 c2_3 E5 E6 hb
          have b3 := E7.out.bx 3 rfl
          have c3_0 := b3.cell 0 rfl
          have c3_1 := b3.cell 1 rfl
          have c3_2 := b3.cell 2 rfl
          have c3_3 := b3.cell 3 rfl
          clear b3
          go_wp2_with fail
          refine (Go_fl HI.out N2.out (by have := N3.out; omega) (E7.out.fc 4 rfl) (E7.out.fc 5 rfl) (E7.out.fc 6 rfl)).mono ?_
          rintro e w6 ⟨⟨vv, rfl, va, vj, vb, vk, vc, vm, rfl, v1, v2, v3⟩, hb⟩
          have E8 : Hid (Env D w [(w4.heap.size + 1, 24, [.int .i64 M0.fr, .int .i64 M0.to_, .int .i64 M0.kd, .int .i64 M0.nm, .slice zo (M0).body.length zq]), (w4.heap.size, 64, [.int .i64 (L0).nw, .slice za (L0).L.length zj, .slice zb (L0).ats.length zk, .slice zc (L0).ft.length zm]), (gg, 3, icl got), (w3.heap.size, 64, [.int .i64 (FLn ft now (j0 :: js) (dr ft ft.length)).nw, .slice na (FLn ft now (j0 :: js) (dr ft ft.length)).L.length nj, .slice nb (FLn ft now (j0 :: js) (dr ft ft.length)).ats.length nk, .slice nc (FLn ft now (j0 :: js) (dr ft ft.length)).ft.length nm])] [.rw (.slice vc (FLn ft (dl ft j0) (j0 :: js) (dr ft ft.length)).ft.length vm) (FLn ft (dl ft j0) (j0 :: js) (dr ft ft.length)).ft.length 2 (fcl (FLn ft (dl ft j0) (j0 :: js) (dr ft ft.length)).ft), .rw (.slice vb (FLn ft (dl ft j0) (j0 :: js) (dr ft ft.length)).ats.length vk) (FLn ft (dl ft j0) (j0 :: js) (dr ft ft.length)).ats.length 1 (icl (FLn ft (dl ft j0) (j0 :: js) (dr ft ft.length)).ats), .ms (.slice va (FLn ft (dl ft j0) (j0 :: js) (dr ft ft.length)).L.length vj) (FLn ft (dl ft j0) (j0 :: js) (dr ft ft.length)).L, .bs (.slice zo (M0).body.length zq) (M0).body, .rw (.slice zc (L0).ft.length zm) (L0).ft.length 2 (fcl (L0).ft), .rw (.slice zb (L0).ats.length zk) (L0).ats.length 1 (icl (L0).ats), .ms (.slice za (L0).L.length zj) (L0).L, .ms (.slice na (FLn ft now (j0 :: js) (dr ft ft.length)).L.length nj) (FLn ft now (j0 :: js) (dr ft ft.length)).L, .rw (.slice nb (FLn ft now (j0 :: js) (dr ft ft.length)).ats.length nk) (FLn ft now (j0 :: js) (dr ft ft.length)).ats.length 1 (icl (FLn ft now (j0 :: js) (dr ft ft.length)).ats), .rw (.slice nc (FLn ft now (j0 :: js) (dr ft ft.length)).ft.length nm) (FLn ft now (j0 :: js) (dr ft ft.length)).ft.length 2 (fcl (FLn ft now (j0 :: js) (dr ft ft.length)).ft), .rw (.slice fa ft.length fk) ft.length 2 (fcl ft)] w6) := Lib.hid (E7.out.got (E7.out.got (E7.out.got (E7.out.below hb) (.ms (.slice va (FLn ft (dl ft j0) (j0 :: js) (dr ft ft.length)).L.length vj) (FLn ft (dl ft j0) (j0 :: js) (dr ft ft.length)).L) v1.out) (.rw (.slice vb (FLn ft (dl ft j0) (j0 :: js) (dr ft ft.length)).ats.length vk) (FLn ft (dl ft j0) (j0 :: js) (dr ft ft.length)).ats.length 1 (icl (FLn ft (dl ft j0) (j0 :: js) (dr ft ft.length)).ats)) v2.out) (.rw (.slice vc (FLn ft (dl ft j0) (j0 :: js) (dr ft ft.length)).ft.length vm) (FLn ft (dl ft j0) (j0 :: js) (dr ft ft.length)).ft.length 2 (fcl (FLn ft (dl ft j0) (j0 :: js) (dr ft ft.length)).ft)) v3.out)
          clear c3_0 c3_1 c3_2 c3_3 E7 hb v1 v2 v3
          have b4 := E8.out.bx 1 rfl
          have c4_0 := b4.cell 0 rfl
          have c4_1 := b4.cell 1 rfl
          have c4_2 := b4.cell 2 rfl
          have c4_3 := b4.cell 3 rfl
          have f4_0 := b4.frozen 0
          have f4_1 := b4.frozen 1
          have f4_2 := b4.frozen 2
          have f4_3 := b4.frozen 3
          clear b4
          have e9 : ((FLn ft (dl ft j0) (j0 :: js) (dr ft ft.length)).nw != dl ft j0) = false := by simp [FLn]
          have E9 : Hid (Env D w [(w4.heap.size + 1, 24, [.int .i64 M0.fr, .int .i64 M0.to_, .int .i64 M0.kd, .int .i64 M0.nm, .slice zo (M0).body.length zq]), (w4.heap.size, 64, [.int .i64 (FLn ft (dl ft j0) (j0 :: js) (dr ft ft.length)).nw, .slice va (FLn ft (dl ft j0) (j0 :: js) (dr ft ft.length)).L.length vj, .slice vb (FLn ft (dl ft j0) (j0 :: js) (dr ft ft.length)).ats.length vk, .slice vc (FLn ft (dl ft j0) (j0 :: js) (dr ft ft.length)).ft.length vm]), (gg, 3, icl got), (w3.heap.size, 64, [.int .i64 (FLn ft now (j0 :: js) (dr ft ft.length)).nw, .slice na (FLn ft now (j0 :: js) (dr ft ft.length)).L.length nj, .slice nb (FLn ft now (j0 :: js) (dr ft ft.length)).ats.length nk, .slice nc (FLn ft now (j0 :: js) (dr ft ft.length)).ft.length nm])] [.rw (.slice vc (FLn ft (dl ft j0) (j0 :: js) (dr ft ft.length)).ft.length vm) (FLn ft (dl ft j0) (j0 :: js) (dr ft ft.length)).ft.length 2 (fcl (FLn ft (dl ft j0) (j0 :: js) (dr ft ft.length)).ft), .rw (.slice vb (FLn ft (dl ft j0) (j0 :: js) (dr ft ft.length)).ats.length vk) (FLn ft (dl ft j0) (j0 :: js) (dr ft ft.length)).ats.length 1 (icl (FLn ft (dl ft j0) (j0 :: js) (dr ft ft.length)).ats), .ms (.slice va (FLn ft (dl ft j0) (j0 :: js) (dr ft ft.length)).L.length vj) (FLn ft (dl ft j0) (j0 :: js) (dr ft ft.length)).L, .bs (.slice zo (M0).body.length zq) (M0).body, .rw (.slice zc (L0).ft.length zm) (L0).ft.length 2 (fcl (L0).ft), .rw (.slice zb (L0).ats.length zk) (L0).ats.length 1 (icl (L0).ats), .ms (.slice za (L0).L.length zj) (L0).L, .ms (.slice na (FLn ft now (j0 :: js) (dr ft ft.length)).L.length nj) (FLn ft now (j0 :: js) (dr ft ft.length)).L, .rw (.slice nb (FLn ft now (j0 :: js) (dr ft ft.length)).ats.length nk) (FLn ft now (j0 :: js) (dr ft ft.length)).ats.length 1 (icl (FLn ft now (j0 :: js) (dr ft ft.length)).ats), .rw (.slice nc (FLn ft now (j0 :: js) (dr ft ft.length)).ft.length nm) (FLn ft now (j0 :: js) (dr ft ft.length)).ft.length 2 (fcl (FLn ft now (j0 :: js) (dr ft ft.length)).ft), .rw (.slice fa ft.length fk) ft.length 2 (fcl ft)] _) := Lib.hid (((((E8.out.set 1 0 (.int .i64 (FLn ft (dl ft j0) (j0 :: js) (dr ft ft.length)).nw) rfl).set 1 1 (.slice va (FLn ft (dl ft j0) (j0 :: js) (dr ft ft.length)).L.length vj) rfl).set 1 2 (.slice vb (FLn ft (dl ft j0) (j0 :: js) (dr ft ft.length)).ats.length vk) rfl).set 1 3 (.slice vc (FLn ft (dl ft j0) (j0 :: js) (dr ft ft.length)).ft.length vm) rfl))
          have b5 := E9.out.bx 3 rfl
          have c5_0 := b5.cell 0 rfl
          have c5_1 := b5.cell 1 rfl
          have c5_2 := b5.cell 2 rfl
          have c5_3 := b5.cell 3 rfl
          have f5_0 := b5.frozen 0
          have f5_1 := b5.frozen 1
          have f5_2 := b5.frozen 2
          have f5_3 := b5.frozen 3
          clear b5
          have E10 : Hid (Env D w [(w4.heap.size + 1, 24, [.int .i64 M0.fr, .int .i64 M0.to_, .int .i64 M0.kd, .int .i64 M0.nm, .slice zo (M0).body.length zq]), (w4.heap.size, 64, [.int .i64 (FLn ft (dl ft j0) (j0 :: js) (dr ft ft.length)).nw, .slice va (FLn ft (dl ft j0) (j0 :: js) (dr ft ft.length)).L.length vj, .slice vb (FLn ft (dl ft j0) (j0 :: js) (dr ft ft.length)).ats.length vk, .slice vc (FLn ft (dl ft j0) (j0 :: js) (dr ft ft.length)).ft.length vm]), (gg, 3, icl got), (w3.heap.size, 64, [.int .i64 (FLn ft (dl ft j0) (j0 :: js) (dr ft ft.length)).nw, .slice va (FLn ft (dl ft j0) (j0 :: js) (dr ft ft.length)).L.length vj, .slice vb (FLn ft (dl ft j0) (j0 :: js) (dr ft ft.length)).ats.length vk, .slice vc (FLn ft (dl ft j0) (j0 :: js) (dr ft ft.length)).ft.length vm])] [.rw (.slice vc (FLn ft (dl ft j0) (j0 :: js) (dr ft ft.length)).ft.length vm) (FLn ft (dl ft j0) (j0 :: js) (dr ft ft.length)).ft.length 2 (fcl (FLn ft (dl ft j0) (j0 :: js) (dr ft ft.length)).ft), .rw (.slice vb (FLn ft (dl ft j0) (j0 :: js) (dr ft ft.length)).ats.length vk) (FLn ft (dl ft j0) (j0 :: js) (dr ft ft.length)).ats.length 1 (icl (FLn ft (dl ft j0) (j0 :: js) (dr ft ft.length)).ats), .ms (.slice va (FLn ft (dl ft j0) (j0 :: js) (dr ft ft.length)).L.length vj) (FLn ft (dl ft j0) (j0 :: js) (dr ft ft.length)).L, .bs (.slice zo (M0).body.length zq) (M0).body, .rw (.slice zc (L0).ft.length zm) (L0).ft.length 2 (fcl (L0).ft), .rw (.slice zb (L0).ats.length zk) (L0).ats.length 1 (icl (L0).ats), .ms (.slice za (L0).L.length zj) (L0).L, .ms (.slice na (FLn ft now (j0 :: js) (dr ft ft.length)).L.length nj) (FLn ft now (j0 :: js) (dr ft ft.length)).L, .rw (.slice nb (FLn ft now (j0 :: js) (dr ft ft.length)).ats.length nk) (FLn ft now (j0 :: js) (dr ft ft.length)).ats.length 1 (icl (FLn ft now (j0 :: js) (dr ft ft.length)).ats), .rw (.slice nc (FLn ft now (j0 :: js) (dr ft ft.length)).ft.length nm) (FLn ft now (j0 :: js) (dr ft ft.length)).ft.length 2 (fcl (FLn ft now (j0 :: js) (dr ft ft.length)).ft), .rw (.slice fa ft.length fk) ft.length 2 (fcl ft)] _) := Lib.hid (((((E9.out.set 3 0 (.int .i64 (FLn ft (dl ft j0) (j0 :: js) (dr ft ft.length)).nw) rfl).set 3 1 (.slice va (FLn ft (dl ft j0) (j0 :: js) (dr ft ft.length)).L.length vj) rfl).set 3 2 (.slice vb (FLn ft (dl ft j0) (j0 :: js) (dr ft ft.length)).ats.length vk) rfl).set 3 3 (.slice vc (FLn ft (dl ft j0) (j0 :: js) (dr ft ft.length)).ft.length vm) rfl))
          have hZ := ((E10.out.drop).drop)
          have EZ : Hid (Env D w [(gg, 3, icl got), (w3.heap.size, 64, [.int .i64 (FLn ft (dl ft j0) (j0 :: js) (dr ft ft.length)).nw, .slice va (FLn ft (dl ft j0) (j0 :: js) (dr ft ft.length)).L.length vj, .slice vb (FLn ft (dl ft j0) (j0 :: js) (dr ft ft.length)).ats.length vk, .slice vc (FLn ft (dl ft j0) (j0 :: js) (dr ft ft.length)).ft.length vm])] [.ms (.slice va (FLn ft (dl ft j0) (j0 :: js) (dr ft ft.length)).L.length vj) (FLn ft (dl ft j0) (j0 :: js) (dr ft ft.length)).L, .rw (.slice vb (FLn ft (dl ft j0) (j0 :: js) (dr ft ft.length)).ats.length vk) (FLn ft (dl ft j0) (j0 :: js) (dr ft ft.length)).ats.length 1 (icl (FLn ft (dl ft j0) (j0 :: js) (dr ft ft.length)).ats), .rw (.slice vc (FLn ft (dl ft j0) (j0 :: js) (dr ft ft.length)).ft.length vm) (FLn ft (dl ft j0) (j0 :: js) (dr ft ft.length)).ft.length 2 (fcl (FLn ft (dl ft j0) (j0 :: js) (dr ft ft.length)).ft), .rw (.slice fa ft.length fk) ft.length 2 (fcl ft)] _) := Lib.hid ⟨hZ.bel, hZ.box, ⟨hZ.fc 2 rfl, ⟨hZ.fc 1 rfl, ⟨hZ.fc 0 rfl, ⟨hZ.fc 10 rfl, trivial⟩⟩⟩⟩⟩
          clear hZ
          go_wp2
          go_roundg (600 - (r + 1))
          case rel => exact ⟨r + 1, dl ft j0, j0 :: js, got, va, vj, vb, vk, vc, vm, rfl, EZ, Lib.hid ⟨⟨by omega, rfl⟩, N4.out⟩⟩
          case measure => exact by omega
        have hd := Lib.hid (fun (j : Nat) (h : j < got.length) (h2 : j < ft.length) => FI.done HI.out h h2)
        have hgl := Lib.hid HI.out.2.2.1
        clear hno
        have b1 := EL.out.bx 1 rfl
        have c1_0 := b1.cell 0 rfl
        have c1_1 := b1.cell 1 rfl
        have c1_2 := b1.cell 2 rfl
        have c1_3 := b1.cell 3 rfl
        clear b1
        go_wp2_with fail
        refine (Receive_fn HI.out HN.out (EL.out.fc 0 rfl) (EL.out.fc 1 rfl) (EL.out.fc 2 rfl)).mono ?_
        rintro e w4 ⟨⟨zv, zo, zq, rfl, ⟨za, zj, zb, zk, zc, zm, rfl, z1, z2, z3⟩, z4⟩, hb⟩
        have E5 : Hid (Env D w [(gg, 3, icl got), (w3.heap.size, 64, [.int .i64 (FLn ft now [] (dr ft ft.length)).nw, .slice na (FLn ft now [] (dr ft ft.length)).L.length nj, .slice nb (FLn ft now [] (dr ft ft.length)).ats.length nk, .slice nc (FLn ft now [] (dr ft ft.length)).ft.length nm])] [.bs (.slice zo (M0).body.length zq) (M0).body, .rw (.slice zc (L0).ft.length zm) (L0).ft.length 2 (fcl (L0).ft), .rw (.slice zb (L0).ats.length zk) (L0).ats.length 1 (icl (L0).ats), .ms (.slice za (L0).L.length zj) (L0).L, .ms (.slice na (FLn ft now [] (dr ft ft.length)).L.length nj) (FLn ft now [] (dr ft ft.length)).L, .rw (.slice nb (FLn ft now [] (dr ft ft.length)).ats.length nk) (FLn ft now [] (dr ft ft.length)).ats.length 1 (icl (FLn ft now [] (dr ft ft.length)).ats), .rw (.slice nc (FLn ft now [] (dr ft ft.length)).ft.length nm) (FLn ft now [] (dr ft ft.length)).ft.length 2 (fcl (FLn ft now [] (dr ft ft.length)).ft), .rw (.slice fa ft.length fk) ft.length 2 (fcl ft)] w4) := Lib.hid (EL.out.got (EL.out.got (EL.out.got (EL.out.got (EL.out.below hb) (.ms (.slice za (L0).L.length zj) (L0).L) z1.out) (.rw (.slice zb (L0).ats.length zk) (L0).ats.length 1 (icl (L0).ats)) z2.out) (.rw (.slice zc (L0).ft.length zm) (L0).ft.length 2 (fcl (L0).ft)) z3.out) (.bs (.slice zo (M0).body.length zq) (M0).body) z4.out)
        clear c1_0 c1_1 c1_2 c1_3 EL hb z1 z2 z3 z4
        have E6 : Hid (Env D w [(w4.heap.size + 1, 24, [.int .i64 M0.fr, .int .i64 M0.to_, .int .i64 M0.kd, .int .i64 M0.nm, .slice zo (M0).body.length zq]), (w4.heap.size, 64, [.int .i64 (L0).nw, .slice za (L0).L.length zj, .slice zb (L0).ats.length zk, .slice zc (L0).ft.length zm]), (gg, 3, icl got), (w3.heap.size, 64, [.int .i64 (FLn ft now [] (dr ft ft.length)).nw, .slice na (FLn ft now [] (dr ft ft.length)).L.length nj, .slice nb (FLn ft now [] (dr ft ft.length)).ats.length nk, .slice nc (FLn ft now [] (dr ft ft.length)).ft.length nm])] [.bs (.slice zo (M0).body.length zq) (M0).body, .rw (.slice zc (L0).ft.length zm) (L0).ft.length 2 (fcl (L0).ft), .rw (.slice zb (L0).ats.length zk) (L0).ats.length 1 (icl (L0).ats), .ms (.slice za (L0).L.length zj) (L0).L, .ms (.slice na (FLn ft now [] (dr ft ft.length)).L.length nj) (FLn ft now [] (dr ft ft.length)).L, .rw (.slice nb (FLn ft now [] (dr ft ft.length)).ats.length nk) (FLn ft now [] (dr ft ft.length)).ats.length 1 (icl (FLn ft now [] (dr ft ft.length)).ats), .rw (.slice nc (FLn ft now [] (dr ft ft.length)).ft.length nm) (FLn ft now [] (dr ft ft.length)).ft.length 2 (fcl (FLn ft now [] (dr ft ft.length)).ft), .rw (.slice fa ft.length fk) ft.length 2 (fcl ft)] _) := Lib.hid (((E5.out.push 64 [.int .i64 (L0).nw, .slice za (L0).L.length zj, .slice zb (L0).ats.length zk, .slice zc (L0).ft.length zm] (w4.heap.size) (by simp)).push 24 [.int .i64 M0.fr, .int .i64 M0.to_, .int .i64 M0.kd, .int .i64 M0.nm, .slice zo (M0).body.length zq] (w4.heap.size + 1) (by simp)))
        have b2 := E6.out.bx 3 rfl
        have c2_0 := b2.cell 0 rfl
        have c2_1 := b2.cell 1 rfl
        have c2_2 := b2.cell 2 rfl
        have c2_3 := b2.cell 3 rfl
        clear b2
        go_wp2_with fail
        refine (Next_fl HI.out (FI.no HI.out) (E6.out.fc 4 rfl) (E6.out.fc 5 rfl) (E6.out.fc 6 rfl)).mono ?_
        rintro e w5 ⟨rfl, hb⟩
        have E7 : Hid (Env D w [(w4.heap.size + 1, 24, [.int .i64 M0.fr, .int .i64 M0.to_, .int .i64 M0.kd, .int .i64 M0.nm, .slice zo (M0).body.length zq]), (w4.heap.size, 64, [.int .i64 (L0).nw, .slice za (L0).L.length zj, .slice zb (L0).ats.length zk, .slice zc (L0).ft.length zm]), (gg, 3, icl got), (w3.heap.size, 64, [.int .i64 (FLn ft now [] (dr ft ft.length)).nw, .slice na (FLn ft now [] (dr ft ft.length)).L.length nj, .slice nb (FLn ft now [] (dr ft ft.length)).ats.length nk, .slice nc (FLn ft now [] (dr ft ft.length)).ft.length nm])] [.bs (.slice zo (M0).body.length zq) (M0).body, .rw (.slice zc (L0).ft.length zm) (L0).ft.length 2 (fcl (L0).ft), .rw (.slice zb (L0).ats.length zk) (L0).ats.length 1 (icl (L0).ats), .ms (.slice za (L0).L.length zj) (L0).L, .ms (.slice na (FLn ft now [] (dr ft ft.length)).L.length nj) (FLn ft now [] (dr ft ft.length)).L, .rw (.slice nb (FLn ft now [] (dr ft ft.length)).ats.length nk) (FLn ft now [] (dr ft ft.length)).ats.length 1 (icl (FLn ft now [] (dr ft ft.length)).ats), .rw (.slice nc (FLn ft now [] (dr ft ft.length)).ft.length nm) (FLn ft now [] (dr ft ft.length)).ft.length 2 (fcl (FLn ft now [] (dr ft ft.length)).ft), .rw (.slice fa ft.length fk) ft.length 2 (fcl ft)] w5) := Lib.hid (E6.out.below hb)
        clear c2_0 c2_1 c2_2 c2_3 E5 E6 hb
        go_wp2_with fail
        go_loopg [121] (ft.length) (fun gk s121 wr => ∃ (i : Nat), s121 = .int .i64 (i : Int) ∧ Hid (Env D w [(w4.heap.size + 1, 24, [.int .i64 M0.fr, .int .i64 M0.to_, .int .i64 M0.kd, .int .i64 M0.nm, .slice zo (M0).body.length zq]), (w4.heap.size, 64, [.int .i64 (L0).nw, .slice za (L0).L.length zj, .slice zb (L0).ats.length zk, .slice zc (L0).ft.length zm]), (gg, 3, icl got), (w3.heap.size, 64, [.int .i64 (FLn ft now [] (dr ft ft.length)).nw, .slice na (FLn ft now [] (dr ft ft.length)).L.length nj, .slice nb (FLn ft now [] (dr ft ft.length)).ats.length nk, .slice nc (FLn ft now [] (dr ft ft.length)).ft.length nm])] [.bs (.slice zo (M0).body.length zq) (M0).body, .rw (.slice zc (L0).ft.length zm) (L0).ft.length 2 (fcl (L0).ft), .rw (.slice zb (L0).ats.length zk) (L0).ats.length 1 (icl (L0).ats), .ms (.slice za (L0).L.length zj) (L0).L, .ms (.slice na (FLn ft now [] (dr ft ft.length)).L.length nj) (FLn ft now [] (dr ft ft.length)).L, .rw (.slice nb (FLn ft now [] (dr ft ft.length)).ats.length nk) (FLn ft now [] (dr ft ft.length)).ats.length 1 (icl (FLn ft now [] (dr ft ft.length)).ats), .rw (.slice nc (FLn ft now [] (dr ft ft.length)).ft.length nm) (FLn ft now [] (dr ft ft.length)).ft.length 2 (fcl (FLn ft now [] (dr ft ft.length)).ft), .rw (.slice fa ft.length fk) ft.length 2 (fcl ft)] wr) ∧ Hid (i ≤ ft.length ∧ gk = ft.length - i))
        case atStart => exact ⟨0, rfl, Lib.hid E7.out, Lib.hid ⟨Nat.zero_le _, rfl⟩⟩
        case round =>
          clear E7
          obtain ⟨i, rfl, EL, HA⟩ := hrel
          obtain ⟨b1, b2⟩ := HA.out
          clear HA
          by_cases hy : i = ft.length
          rotate_left
          · have hi : i < ft.length := by omega
            have t8 : decide ((i : Int) < (ft.length : Int)) = true := decide_eq_true (by omega)
            have t9 : decide (i < ft.length) = true := decide_eq_true hi
            have hi2 : i < got.length := by rw [hgl.out]; exact hi
            clear hy
            obtain ⟨fab, fao, rfl⟩ := Rw.addr (EL.out.fc 7 rfl) (by omega)
            have E8 : Hid (Env D w [(w4.heap.size + 1, 24, [.int .i64 M0.fr, .int .i64 M0.to_, .int .i64 M0.kd, .int .i64 M0.nm, .slice zo (M0).body.length zq]), (w4.heap.size, 64, [.int .i64 (L0).nw, .slice za (L0).L.length zj, .slice zb (L0).ats.length zk, .slice zc (L0).ft.length zm]), (gg, 3, icl got), (w3.heap.size, 64, [.int .i64 (FLn ft now [] (dr ft ft.length)).nw, .slice na (FLn ft now [] (dr ft ft.length)).L.length nj, .slice nb (FLn ft now [] (dr ft ft.length)).ats.length nk, .slice nc (FLn ft now [] (dr ft ft.length)).ft.length nm])] [.ce fab (fao + i * 2) (.int .i64 ft[i].1), .ce fab (fao + i * 2 + 1) (.int .i64 ft[i].2), .bs (.slice zo (M0).body.length zq) (M0).body, .rw (.slice zc (L0).ft.length zm) (L0).ft.length 2 (fcl (L0).ft), .rw (.slice zb (L0).ats.length zk) (L0).ats.length 1 (icl (L0).ats), .ms (.slice za (L0).L.length zj) (L0).L, .ms (.slice na (FLn ft now [] (dr ft ft.length)).L.length nj) (FLn ft now [] (dr ft ft.length)).L, .rw (.slice nb (FLn ft now [] (dr ft ft.length)).ats.length nk) (FLn ft now [] (dr ft ft.length)).ats.length 1 (icl (FLn ft now [] (dr ft ft.length)).ats), .rw (.slice nc (FLn ft now [] (dr ft ft.length)).ft.length nm) (FLn ft now [] (dr ft ft.length)).ft.length 2 (fcl (FLn ft now [] (dr ft ft.length)).ft), .rw (.slice (some ⟨fab, fao, none⟩) ft.length fk) ft.length 2 (fcl ft)] _) := Lib.hid (EL.out.elF 7 rfl rfl (i) hi)
            clear EL
            have v0 := (E8.out.fc 0 rfl).2
            have v1 := (E8.out.fc 1 rfl).2
            have E9 : Hid (Env D w [(wr.heap.size, 72, [.int .i64 ft[i].1, .int .i64 ft[i].2]), (w4.heap.size + 1, 24, [.int .i64 M0.fr, .int .i64 M0.to_, .int .i64 M0.kd, .int .i64 M0.nm, .slice zo (M0).body.length zq]), (w4.heap.size, 64, [.int .i64 (L0).nw, .slice za (L0).L.length zj, .slice zb (L0).ats.length zk, .slice zc (L0).ft.length zm]), (gg, 3, icl got), (w3.heap.size, 64, [.int .i64 (FLn ft now [] (dr ft ft.length)).nw, .slice na (FLn ft now [] (dr ft ft.length)).L.length nj, .slice nb (FLn ft now [] (dr ft ft.length)).ats.length nk, .slice nc (FLn ft now [] (dr ft ft.length)).ft.length nm])] [.ce fab (fao + i * 2) (.int .i64 ft[i].1), .ce fab (fao + i * 2 + 1) (.int .i64 ft[i].2), .bs (.slice zo (M0).body.length zq) (M0).body, .rw (.slice zc (L0).ft.length zm) (L0).ft.length 2 (fcl (L0).ft), .rw (.slice zb (L0).ats.length zk) (L0).ats.length 1 (icl (L0).ats), .ms (.slice za (L0).L.length zj) (L0).L, .ms (.slice na (FLn ft now [] (dr ft ft.length)).L.length nj) (FLn ft now [] (dr ft ft.length)).L, .rw (.slice nb (FLn ft now [] (dr ft ft.length)).ats.length nk) (FLn ft now [] (dr ft ft.length)).ats.length 1 (icl (FLn ft now [] (dr ft ft.length)).ats), .rw (.slice nc (FLn ft now [] (dr ft ft.length)).ft.length nm) (FLn ft now [] (dr ft ft.length)).ft.length 2 (fcl (FLn ft now [] (dr ft ft.length)).ft), .rw (.slice (some ⟨fab, fao, none⟩) ft.length fk) ft.length 2 (fcl ft)] _) := Lib.hid ((E8.out.push 72 [.int .i64 ft[i].1, .int .i64 ft[i].2] (wr.heap.size) (by simp)))
            have HD := Lib.hid (hd.out i hi2 hi)
            have e7 : (got[i] != ft[i].1) = false := by rw [HD.out]; simp
            go_wp2_with fail
            clear v0 v1 E8
            generalize wr.alloc (.cells #[.int .i64 ft[i].1, .int .i64 ft[i].2] 72) = w6 at *
            have E10 : Hid (Env D w [(wr.heap.size, 72, [.int .i64 ft[i].1, .int .i64 ft[i].2]), (w4.heap.size + 1, 24, [.int .i64 M0.fr, .int .i64 M0.to_, .int .i64 M0.kd, .int .i64 M0.nm, .slice zo (M0).body.length zq]), (w4.heap.size, 64, [.int .i64 (L0).nw, .slice za (L0).L.length zj, .slice zb (L0).ats.length zk, .slice zc (L0).ft.length zm]), (gg, 3, icl got), (w3.heap.size, 64, [.int .i64 (FLn ft now [] (dr ft ft.length)).nw, .slice na (FLn ft now [] (dr ft ft.length)).L.length nj, .slice nb (FLn ft now [] (dr ft ft.length)).ats.length nk, .slice nc (FLn ft now [] (dr ft ft.length)).ft.length nm])] [.ce fab (fao + i * 2) (.int .i64 ft[i].1), .ce fab (fao + i * 2 + 1) (.int .i64 ft[i].2), .bs (.slice zo (M0).body.length zq) (M0).body, .rw (.slice zc (L0).ft.length zm) (L0).ft.length 2 (fcl (L0).ft), .rw (.slice zb (L0).ats.length zk) (L0).ats.length 1 (icl (L0).ats), .ms (.slice za (L0).L.length zj) (L0).L, .ms (.slice na (FLn ft now [] (dr ft ft.length)).L.length nj) (FLn ft now [] (dr ft ft.length)).L, .rw (.slice nb (FLn ft now [] (dr ft ft.length)).ats.length nk) (FLn ft now [] (dr ft ft.length)).ats.length 1 (icl (FLn ft now [] (dr ft ft.length)).ats), .rw (.slice nc (FLn ft now [] (dr ft ft.length)).ft.length nm) (FLn ft now [] (dr ft ft.length)).ft.length 2 (fcl (FLn ft now [] (dr ft ft.length)).ft), .rw (.slice (some ⟨fab, fao, none⟩) ft.length fk) ft.length 2 (fcl ft)] (w6.drew)) := Lib.hid E9.out.drew
            clear E9
            refine wp_regionU (S := fun w' => w'.cell? ⟨wr.heap.size, 0, none⟩ = some (.int .i64 ft[i].1) ∧ w'.cell? ⟨gg, i, none⟩ = some (.int .i64 got[i])) [] (by kernel_rfl) (⟨((E10.out.bx 0 rfl).cell 0 rfl), (E10.out.bx 3 rfl).cell i (icl_get got i hi2)⟩) (fun hHeld => ?_)
            generalize w6.drew = w7 at *
            refine uTake (i := 0) (some 126) (v := ?_) rfl rfl (by kernel_rfl) (by kernel_rfl) (by kernel_rfl) (by kernel_rfl) (fun _ _ _ h => h) (by rfl) (by assumption) ?_ ?_
            rotate_left
            · (intro wS hSw; (try dsimp only at hSw); go_simp; try with_reducible rfl)
            try simp only [Act.put, List.setIfInBounds_toArray, List.set_cons_zero, List.set_cons_succ]
            refine uTake (i := 1) (some 127) (v := ?_) rfl rfl (by kernel_rfl) (by kernel_rfl) (by kernel_rfl) (by kernel_rfl) (fun _ _ _ h => h) (by rfl) (by assumption) ?_ ?_
            rotate_left
            · (intro wS hSw; (try dsimp only at hSw); go_simp; try with_reducible rfl)
            try simp only [Act.put, List.setIfInBounds_toArray, List.set_cons_zero, List.set_cons_succ]
            refine uTake (i := 2) (some 128) (v := ?_) rfl rfl (by kernel_rfl) (by kernel_rfl) (by kernel_rfl) (by kernel_rfl) (fun _ _ _ h => h) (by rfl) (by assumption) ?_ ?_
            rotate_left
            · (intro wS hSw; (try dsimp only at hSw); go_simp; try with_reducible rfl)
            try simp only [Act.put, List.setIfInBounds_toArray, List.set_cons_zero, List.set_cons_succ]
            refine uTake (i := 3) (some 129) (v := ?_) rfl rfl (by kernel_rfl) (by kernel_rfl) (by kernel_rfl) (by kernel_rfl) (fun _ _ _ h => h) (by rfl) (by assumption) ?_ ?_
            rotate_left
            · (intro wS hSw; (try dsimp only at hSw); go_simp; try with_reducible rfl)
            try simp only [Act.put, List.setIfInBounds_toArray, List.set_cons_zero, List.set_cons_succ]
            refine uTake (i := 4) (some 130) (v := ?_) rfl rfl (by kernel_rfl) (by kernel_rfl) (by kernel_rfl) (by kernel_rfl) (fun _ _ _ h => h) (by rfl) (by assumption) ?_ ?_
            rotate_left
            · (intro wS hSw; (try dsimp only at hSw); go_simp; try with_reducible rfl)
            try simp only [Act.put, List.setIfInBounds_toArray, List.set_cons_zero, List.set_cons_succ]
            refine uTake (i := 5) (some 131) (v := ?_) rfl rfl (by kernel_rfl) (by kernel_rfl) (by kernel_rfl) (by kernel_rfl) (fun _ _ _ h => h) (by rfl) (by assumption) ?_ ?_
            rotate_left
            · (intro wS hSw; (try dsimp only at hSw); go_simp; try with_reducible rfl)
            try simp only [Act.put, List.setIfInBounds_toArray, List.set_cons_zero, List.set_cons_succ]
            refine uTake (i := 6) (some 132) (v := ?_) rfl rfl (by kernel_rfl) (by kernel_rfl) (by kernel_rfl) (by kernel_rfl) (fun _ _ _ h => h) (by rfl) (by assumption) ?_ ?_
            rotate_left
            · (intro wS hSw; (try dsimp only at hSw); go_simp; try with_reducible rfl)
            try simp only [Act.put, List.setIfInBounds_toArray, List.set_cons_zero, List.set_cons_succ]
            refine uDone (by kernel_rfl) ?_ _
            have EZ := Lib.hid (((E10.out.drop).forget).forget)
            go_wp2
            go_roundg (ft.length - (i + 1))
            case rel => exact ⟨i + 1, rfl, EZ, Lib.hid ⟨by omega, rfl⟩⟩
            case measure => exact by omega
          have t8 : decide ((i : Int) < (ft.length : Int)) = false := decide_eq_false (by omega)
          have t9 : decide (i < ft.length) = false := decide_eq_false (by omega)
          clear hy
          have hfin := Lib.hid EL.out.bel
          go_wp2
          go_ret
          exact ⟨rfl, hfin.out⟩
      obtain ⟨j, hjg, hjn, hjs, hdl, hg3, hg0, hm, hrq, hI2⟩ := HI.out.recv HF.out (by simpa [FLn] using hf) har
      have hfj : f0 < js.length := by simpa [FLn] using hf
      have e3 : decide ((FLn ft now js (dr ft ft.length)).nw < ft[j].2) = false := decide_eq_false (by rw [dl_eq hjn] at hdl; show ¬ now < ft[j].2; omega)
      have HFI := Lib.hid hfi
      have HM := Lib.hid hm
      have HR := Lib.hid hrq
      have HI2 := Lib.hid hI2
      have e1 : decide ((j : Int) < 0) = false := decide_eq_false (by omega)
      have e2 : decide ((ft.length : Int) ≤ (j : Int)) = false := decide_eq_false (by omega)
      clear hjs hdl hm hrq hI2 hfi har hf
      have b1 := EL.out.bx 1 rfl
      have c1_0 := b1.cell 0 rfl
      have c1_1 := b1.cell 1 rfl
      have c1_2 := b1.cell 2 rfl
      have c1_3 := b1.cell 3 rfl
      clear b1
      go_wp2_with fail
      refine (Receive_fl2 HI.out HFI.out hfj HM.out HR.out (EL.out.fc 0 rfl) (EL.out.fc 1 rfl) (EL.out.fc 2 rfl)).mono ?_
      rintro e w4 ⟨⟨vv, vo, vq, rfl, ⟨va, vj, vb, vk, vc, vm, rfl, v1, v2, v3⟩, v4⟩, hb⟩
      have E5 : Hid (Env D w [(gg, 3, icl got), (w3.heap.size, 64, [.int .i64 (FLn ft now js (dr ft ft.length)).nw, .slice na (FLn ft now js (dr ft ft.length)).L.length nj, .slice nb (FLn ft now js (dr ft ft.length)).ats.length nk, .slice nc (FLn ft now js (dr ft ft.length)).ft.length nm])] [.bs (.slice vo 0 vq) [], .rw (.slice vc (FLn ft now (js.eraseIdx f0) (dr ft ft.length)).ft.length vm) (FLn ft now (js.eraseIdx f0) (dr ft ft.length)).ft.length 2 (fcl (FLn ft now (js.eraseIdx f0) (dr ft ft.length)).ft), .rw (.slice vb (FLn ft now (js.eraseIdx f0) (dr ft ft.length)).ats.length vk) (FLn ft now (js.eraseIdx f0) (dr ft ft.length)).ats.length 1 (icl (FLn ft now (js.eraseIdx f0) (dr ft ft.length)).ats), .ms (.slice va (FLn ft now (js.eraseIdx f0) (dr ft ft.length)).L.length vj) (FLn ft now (js.eraseIdx f0) (dr ft ft.length)).L, .ms (.slice na (FLn ft now js (dr ft ft.length)).L.length nj) (FLn ft now js (dr ft ft.length)).L, .rw (.slice nb (FLn ft now js (dr ft ft.length)).ats.length nk) (FLn ft now js (dr ft ft.length)).ats.length 1 (icl (FLn ft now js (dr ft ft.length)).ats), .rw (.slice nc (FLn ft now js (dr ft ft.length)).ft.length nm) (FLn ft now js (dr ft ft.length)).ft.length 2 (fcl (FLn ft now js (dr ft ft.length)).ft), .rw (.slice fa ft.length fk) ft.length 2 (fcl ft)] w4) := Lib.hid (EL.out.got (EL.out.got (EL.out.got (EL.out.got (EL.out.below hb) (.ms (.slice va (FLn ft now (js.eraseIdx f0) (dr ft ft.length)).L.length vj) (FLn ft now (js.eraseIdx f0) (dr ft ft.length)).L) v1.out) (.rw (.slice vb (FLn ft now (js.eraseIdx f0) (dr ft ft.length)).ats.length vk) (FLn ft now (js.eraseIdx f0) (dr ft ft.length)).ats.length 1 (icl (FLn ft now (js.eraseIdx f0) (dr ft ft.length)).ats)) v2.out) (.rw (.slice vc (FLn ft now (js.eraseIdx f0) (dr ft ft.length)).ft.length vm) (FLn ft now (js.eraseIdx f0) (dr ft ft.length)).ft.length 2 (fcl (FLn ft now (js.eraseIdx f0) (dr ft ft.length)).ft)) v3.out) (.bs (.slice vo 0 vq) []) v4.out)
      clear c1_0 c1_1 c1_2 c1_3 EL hb v1 v2 v3 v4
      have E6 : Hid (Env D w [(w4.heap.size + 1, 24, [.int .i64 0, .int .i64 1, .int .i64 0, .int .i64 (j : Int), .slice vo 0 vq]), (w4.heap.size, 64, [.int .i64 (FLn ft now (js.eraseIdx f0) (dr ft ft.length)).nw, .slice va (FLn ft now (js.eraseIdx f0) (dr ft ft.length)).L.length vj, .slice vb (FLn ft now (js.eraseIdx f0) (dr ft ft.length)).ats.length vk, .slice vc (FLn ft now (js.eraseIdx f0) (dr ft ft.length)).ft.length vm]), (gg, 3, icl got), (w3.heap.size, 64, [.int .i64 (FLn ft now js (dr ft ft.length)).nw, .slice na (FLn ft now js (dr ft ft.length)).L.length nj, .slice nb (FLn ft now js (dr ft ft.length)).ats.length nk, .slice nc (FLn ft now js (dr ft ft.length)).ft.length nm])] [.bs (.slice vo 0 vq) [], .rw (.slice vc (FLn ft now (js.eraseIdx f0) (dr ft ft.length)).ft.length vm) (FLn ft now (js.eraseIdx f0) (dr ft ft.length)).ft.length 2 (fcl (FLn ft now (js.eraseIdx f0) (dr ft ft.length)).ft), .rw (.slice vb (FLn ft now (js.eraseIdx f0) (dr ft ft.length)).ats.length vk) (FLn ft now (js.eraseIdx f0) (dr ft ft.length)).ats.length 1 (icl (FLn ft now (js.eraseIdx f0) (dr ft ft.length)).ats), .ms (.slice va (FLn ft now (js.eraseIdx f0) (dr ft ft.length)).L.length vj) (FLn ft now (js.eraseIdx f0) (dr ft ft.length)).L, .ms (.slice na (FLn ft now js (dr ft ft.length)).L.length nj) (FLn ft now js (dr ft ft.length)).L, .rw (.slice nb (FLn ft now js (dr ft ft.length)).ats.length nk) (FLn ft now js (dr ft ft.length)).ats.length 1 (icl (FLn ft now js (dr ft ft.length)).ats), .rw (.slice nc (FLn ft now js (dr ft ft.length)).ft.length nm) (FLn ft now js (dr ft ft.length)).ft.length 2 (fcl (FLn ft now js (dr ft ft.length)).ft), .rw (.slice fa ft.length fk) ft.length 2 (fcl ft)] _) := Lib.hid (((E5.out.push 64 [.int .i64 (FLn ft now (js.eraseIdx f0) (dr ft ft.length)).nw, .slice va (FLn ft now (js.eraseIdx f0) (dr ft ft.length)).L.length vj, .slice vb (FLn ft now (js.eraseIdx f0) (dr ft ft.length)).ats.length vk, .slice vc (FLn ft now (js.eraseIdx f0) (dr ft ft.length)).ft.length vm] (w4.heap.size) (by simp)).push 24 [.int .i64 0, .int .i64 1, .int .i64 0, .int .i64 (j : Int), .slice vo 0 vq] (w4.heap.size + 1) (by simp)))
      obtain ⟨fab, fao, rfl⟩ := Rw.addr (E6.out.fc 7 rfl) (by omega)
      have E7 : Hid (Env D w [(w4.heap.size + 1, 24, [.int .i64 0, .int .i64 1, .int .i64 0, .int .i64 (j : Int), .slice vo 0 vq]), (w4.heap.size, 64, [.int .i64 (FLn ft now (js.eraseIdx f0) (dr ft ft.length)).nw, .slice va (FLn ft now (js.eraseIdx f0) (dr ft ft.length)).L.length vj, .slice vb (FLn ft now (js.eraseIdx f0) (dr ft ft.length)).ats.length vk, .slice vc (FLn ft now (js.eraseIdx f0) (dr ft ft.length)).ft.length vm]), (gg, 3, icl got), (w3.heap.size, 64, [.int .i64 (FLn ft now js (dr ft ft.length)).nw, .slice na (FLn ft now js (dr ft ft.length)).L.length nj, .slice nb (FLn ft now js (dr ft ft.length)).ats.length nk, .slice nc (FLn ft now js (dr ft ft.length)).ft.length nm])] [.ce fab (fao + j * 2) (.int .i64 ft[j].1), .ce fab (fao + j * 2 + 1) (.int .i64 ft[j].2), .bs (.slice vo 0 vq) [], .rw (.slice vc (FLn ft now (js.eraseIdx f0) (dr ft ft.length)).ft.length vm) (FLn ft now (js.eraseIdx f0) (dr ft ft.length)).ft.length 2 (fcl (FLn ft now (js.eraseIdx f0) (dr ft ft.length)).ft), .rw (.slice vb (FLn ft now (js.eraseIdx f0) (dr ft ft.length)).ats.length vk) (FLn ft now (js.eraseIdx f0) (dr ft ft.length)).ats.length 1 (icl (FLn ft now (js.eraseIdx f0) (dr ft ft.length)).ats), .ms (.slice va (FLn ft now (js.eraseIdx f0) (dr ft ft.length)).L.length vj) (FLn ft now (js.eraseIdx f0) (dr ft ft.length)).L, .ms (.slice na (FLn ft now js (dr ft ft.length)).L.length nj) (FLn ft now js (dr ft ft.length)).L, .rw (.slice nb (FLn ft now js (dr ft ft.length)).ats.length nk) (FLn ft now js (dr ft ft.length)).ats.length 1 (icl (FLn ft now js (dr ft ft.length)).ats), .rw (.slice nc (FLn ft now js (dr ft ft.length)).ft.length nm) (FLn ft now js (dr ft ft.length)).ft.length 2 (fcl (FLn ft now js (dr ft ft.length)).ft), .rw (.slice (some ⟨fab, fao, none⟩) ft.length fk) ft.length 2 (fcl ft)] _) := Lib.hid (E6.out.elF 7 rfl rfl (j) hjn)
      clear E6
      have q0 := (E7.out.fc 0 rfl).2
      have q1 := (E7.out.fc 1 rfl).2
      go_wp2_with fail
      clear q0 q1 E5
      generalize (w4.alloc (.cells #[.int .i64 (FLn ft now (js.eraseIdx f0) (dr ft ft.length)).nw, .slice va (FLn ft now (js.eraseIdx f0) (dr ft ft.length)).L.length vj, .slice vb (FLn ft now (js.eraseIdx f0) (dr ft ft.length)).ats.length vk, .slice vc (FLn ft now (js.eraseIdx f0) (dr ft ft.length)).ft.length vm] 64)).alloc (.cells #[.int .i64 0, .int .i64 1, .int .i64 0, .int .i64 (j : Int), .slice vo 0 vq] 24) = w5 at *
      have E8 : Hid (Env D w [(w4.heap.size + 1, 24, [.int .i64 0, .int .i64 1, .int .i64 0, .int .i64 (j : Int), .slice vo 0 vq]), (w4.heap.size, 64, [.int .i64 (FLn ft now (js.eraseIdx f0) (dr ft ft.length)).nw, .slice va (FLn ft now (js.eraseIdx f0) (dr ft ft.length)).L.length vj, .slice vb (FLn ft now (js.eraseIdx f0) (dr ft ft.length)).ats.length vk, .slice vc (FLn ft now (js.eraseIdx f0) (dr ft ft.length)).ft.length vm]), (gg, 3, icl got), (w3.heap.size, 64, [.int .i64 (FLn ft now js (dr ft ft.length)).nw, .slice na (FLn ft now js (dr ft ft.length)).L.length nj, .slice nb (FLn ft now js (dr ft ft.length)).ats.length nk, .slice nc (FLn ft now js (dr ft ft.length)).ft.length nm])] [.ce fab (fao + j * 2) (.int .i64 ft[j].1), .ce fab (fao + j * 2 + 1) (.int .i64 ft[j].2), .bs (.slice vo 0 vq) [], .rw (.slice vc (FLn ft now (js.eraseIdx f0) (dr ft ft.length)).ft.length vm) (FLn ft now (js.eraseIdx f0) (dr ft ft.length)).ft.length 2 (fcl (FLn ft now (js.eraseIdx f0) (dr ft ft.length)).ft), .rw (.slice vb (FLn ft now (js.eraseIdx f0) (dr ft ft.length)).ats.length vk) (FLn ft now (js.eraseIdx f0) (dr ft ft.length)).ats.length 1 (icl (FLn ft now (js.eraseIdx f0) (dr ft ft.length)).ats), .ms (.slice va (FLn ft now (js.eraseIdx f0) (dr ft ft.length)).L.length vj) (FLn ft now (js.eraseIdx f0) (dr ft ft.length)).L, .ms (.slice na (FLn ft now js (dr ft ft.length)).L.length nj) (FLn ft now js (dr ft ft.length)).L, .rw (.slice nb (FLn ft now js (dr ft ft.length)).ats.length nk) (FLn ft now js (dr ft ft.length)).ats.length 1 (icl (FLn ft now js (dr ft ft.length)).ats), .rw (.slice nc (FLn ft now js (dr ft ft.length)).ft.length nm) (FLn ft now js (dr ft ft.length)).ft.length 2 (fcl (FLn ft now js (dr ft ft.length)).ft), .rw (.slice (some ⟨fab, fao, none⟩) ft.length fk) ft.length 2 (fcl ft)] (w5.drew)) := Lib.hid E7.out.drew
      clear E7
      refine wp_regionU (S := fun w' => w'.cell? ⟨w4.heap.size + 1, 3, none⟩ = some (.int .i64 (j : Int)) ∧ w'.cell? ⟨w3.heap.size, 0, none⟩ = some (.int .i64 (FLn ft now js (dr ft ft.length)).nw) ∧ w'.cell? ⟨fab, fao + j * 2, none⟩ = some (.int .i64 ft[j].1) ∧ w'.cell? ⟨fab, fao + j * 2 + 1, none⟩ = some (.int .i64 ft[j].2)) [] (by kernel_rfl) (⟨((E8.out.bx 0 rfl).cell 3 rfl), ((E8.out.bx 3 rfl).cell 0 rfl), (E8.out.fc 0 rfl).2, (E8.out.fc 1 rfl).2⟩) (fun hHeld => ?_)
      generalize w5.drew = w6 at *
      refine uTake (i := 0) (some 63) (v := ?_) rfl rfl (by kernel_rfl) (by kernel_rfl) (by kernel_rfl) (by kernel_rfl) (fun _ _ _ h => h) (by rfl) (by assumption) ?_ ?_
      rotate_left
      · (intro wS hSw; (try dsimp only at hSw); go_simp; try with_reducible rfl)
      try simp only [Act.put, List.setIfInBounds_toArray, List.set_cons_zero, List.set_cons_succ]
      refine uTake (i := 1) (some 64) (v := ?_) rfl rfl (by kernel_rfl) (by kernel_rfl) (by kernel_rfl) (by kernel_rfl) (fun _ _ _ h => h) (by rfl) (by assumption) ?_ ?_
      rotate_left
      · (intro wS hSw; (try dsimp only at hSw); go_simp; try with_reducible rfl)
      try simp only [Act.put, List.setIfInBounds_toArray, List.set_cons_zero, List.set_cons_succ]
      refine uTake (i := 2) (some 65) (v := .bool false) rfl rfl (by kernel_rfl) (by kernel_rfl) (by kernel_rfl) (by kernel_rfl) (fun _ _ _ h => h) (by rfl) (by assumption) ?_ ?_
      · (intro wS hSw; (try dsimp only at hSw); go_simp; try simp [*])
      try simp only [Act.put, List.setIfInBounds_toArray, List.set_cons_zero, List.set_cons_succ]
      refine uTake (i := 3) (some 66) (v := ?_) rfl rfl (by kernel_rfl) (by kernel_rfl) (by kernel_rfl) (by kernel_rfl) (fun _ _ _ h => h) (by rfl) (by assumption) ?_ ?_
      rotate_left
      · (intro wS hSw; (try dsimp only at hSw); go_simp; try with_reducible rfl)
      try simp only [Act.put, List.setIfInBounds_toArray, List.set_cons_zero, List.set_cons_succ]
      refine uTake (i := 4) (some 67) (v := ?_) rfl rfl (by kernel_rfl) (by kernel_rfl) (by kernel_rfl) (by kernel_rfl) (fun _ _ _ h => h) (by rfl) (by assumption) ?_ ?_
      rotate_left
      · (intro wS hSw; (try dsimp only at hSw); go_simp; try with_reducible rfl)
      try simp only [Act.put, List.setIfInBounds_toArray, List.set_cons_zero, List.set_cons_succ]
      refine uTake (i := 5) (some 68) (v := ?_) rfl rfl (by kernel_rfl) (by kernel_rfl) (by kernel_rfl) (by kernel_rfl) (fun _ _ _ h => h) (by rfl) (by assumption) ?_ ?_
      rotate_left
      · (intro wS hSw; (try dsimp only at hSw); go_simp; try with_reducible rfl)
      try simp only [Act.put, List.setIfInBounds_toArray, List.set_cons_zero, List.set_cons_succ]
      refine uTake (i := 6) (some 69) (v := ?_) rfl rfl (by kernel_rfl) (by kernel_rfl) (by kernel_rfl) (by kernel_rfl) (fun _ _ _ h => h) (by rfl) (by assumption) ?_ ?_
      rotate_left
      · (intro wS hSw; (try dsimp only at hSw); go_simp; try with_reducible rfl)
      try simp only [Act.put, List.setIfInBounds_toArray, List.set_cons_zero, List.set_cons_succ]
      refine uTake (i := 7) (some 70) (v := ?_) rfl rfl (by kernel_rfl) (by kernel_rfl) (by kernel_rfl) (by kernel_rfl) (fun _ _ _ h => h) (by rfl) (by assumption) ?_ ?_
      rotate_left
      · (intro wS hSw; (try dsimp only at hSw); go_simp; try with_reducible rfl)
      try simp only [Act.put, List.setIfInBounds_toArray, List.set_cons_zero, List.set_cons_succ]
      refine uTake (i := 8) (some 71) (v := .bool false) rfl rfl (by kernel_rfl) (by kernel_rfl) (by kernel_rfl) (by kernel_rfl) (fun _ _ _ h => h) (by rfl) (by assumption) ?_ ?_
      · (intro wS hSw; (try dsimp only at hSw); go_simp; try simp [*])
      try simp only [Act.put, List.setIfInBounds_toArray, List.set_cons_zero, List.set_cons_succ]
      refine uTake (i := 9) (some 72) (v := ?_) rfl rfl (by kernel_rfl) (by kernel_rfl) (by kernel_rfl) (by kernel_rfl) (fun _ _ _ h => h) (by rfl) (by assumption) ?_ ?_
      rotate_left
      · (intro wS hSw; (try dsimp only at hSw); go_simp; try with_reducible rfl)
      try simp only [Act.put, List.setIfInBounds_toArray, List.set_cons_zero, List.set_cons_succ]
      refine uTake (i := 10) (some 73) (v := ?_) rfl rfl (by kernel_rfl) (by kernel_rfl) (by kernel_rfl) (by kernel_rfl) (fun _ _ _ h => h) (by rfl) (by assumption) ?_ ?_
      rotate_left
      · (intro wS hSw; (try dsimp only at hSw); go_simp; try with_reducible rfl)
      try simp only [Act.put, List.setIfInBounds_toArray, List.set_cons_zero, List.set_cons_succ]
      refine uTake (i := 11) (some 74) (v := ?_) rfl rfl (by kernel_rfl) (by kernel_rfl) (by kernel_rfl) (by kernel_rfl) (fun _ _ _ h => h) (by rfl) (by assumption) ?_ ?_
      rotate_left
      · (intro wS hSw; (try dsimp only at hSw); go_simp; try with_reducible rfl)
      try simp only [Act.put, List.setIfInBounds_toArray, List.set_cons_zero, List.set_cons_succ]
      refine uTake (i := 12) (some 75) (v := ?_) rfl rfl (by kernel_rfl) (by kernel_rfl) (by kernel_rfl) (by kernel_rfl) (fun _ _ _ h => h) (by rfl) (by assumption) ?_ ?_
      rotate_left
      · (intro wS hSw; (try dsimp only at hSw); go_simp; try with_reducible rfl)
      try simp only [Act.put, List.setIfInBounds_toArray, List.set_cons_zero, List.set_cons_succ]
      refine uTake (i := 13) (some 76) (v := ?_) rfl rfl (by kernel_rfl) (by kernel_rfl) (by kernel_rfl) (by kernel_rfl) (fun _ _ _ h => h) (by rfl) (by assumption) ?_ ?_
      rotate_left
      · (intro wS hSw; (try dsimp only at hSw); go_simp; try with_reducible rfl)
      try simp only [Act.put, List.setIfInBounds_toArray, List.set_cons_zero, List.set_cons_succ]
      refine uTake (i := 14) (some 77) (v := ?_) rfl rfl (by kernel_rfl) (by kernel_rfl) (by kernel_rfl) (by kernel_rfl) (fun _ _ _ h => h) (by rfl) (by assumption) ?_ ?_
      rotate_left
      · (intro wS hSw; (try dsimp only at hSw); go_simp; try with_reducible rfl)
      try simp only [Act.put, List.setIfInBounds_toArray, List.set_cons_zero, List.set_cons_succ]
      refine uTake (i := 15) (some 78) (v := ?_) rfl rfl (by kernel_rfl) (by kernel_rfl) (by kernel_rfl) (by kernel_rfl) (fun _ _ _ h => h) (by rfl) (by assumption) ?_ ?_
      rotate_left
      · (intro wS hSw; (try dsimp only at hSw); go_simp; try with_reducible rfl)
      try simp only [Act.put, List.setIfInBounds_toArray, List.set_cons_zero, List.set_cons_succ]
      refine uTake (i := 16) (some 79) (v := ?_) rfl rfl (by kernel_rfl) (by kernel_rfl) (by kernel_rfl) (by kernel_rfl) (fun _ _ _ h => h) (by rfl) (by assumption) ?_ ?_
      rotate_left
      · (intro wS hSw; (try dsimp only at hSw); go_simp; try with_reducible rfl)
      try simp only [Act.put, List.setIfInBounds_toArray, List.set_cons_zero, List.set_cons_succ]
      refine uTake (i := 17) (some 80) (v := ?_) rfl rfl (by kernel_rfl) (by kernel_rfl) (by kernel_rfl) (by kernel_rfl) (fun _ _ _ h => h) (by rfl) (by assumption) ?_ ?_
      rotate_left
      · (intro wS hSw; (try dsimp only at hSw); go_simp; try with_reducible rfl)
      try simp only [Act.put, List.setIfInBounds_toArray, List.set_cons_zero, List.set_cons_succ]
      refine uTake (i := 18) (some 81) (v := ?_) rfl rfl (by kernel_rfl) (by kernel_rfl) (by kernel_rfl) (by kernel_rfl) (fun _ _ _ h => h) (by rfl) (by assumption) ?_ ?_
      rotate_left
      · (intro wS hSw; (try dsimp only at hSw); go_simp; try with_reducible rfl)
      try simp only [Act.put, List.setIfInBounds_toArray, List.set_cons_zero, List.set_cons_succ]
      refine uTake (i := 19) (some 82) (v := ?_) rfl rfl (by kernel_rfl) (by kernel_rfl) (by kernel_rfl) (by kernel_rfl) (fun _ _ _ h => h) (by rfl) (by assumption) ?_ ?_
      rotate_left
      · (intro wS hSw; (try dsimp only at hSw); go_simp; try with_reducible rfl)
      try simp only [Act.put, List.setIfInBounds_toArray, List.set_cons_zero, List.set_cons_succ]
      refine uTake (i := 20) (some 83) (v := ?_) rfl rfl (by kernel_rfl) (by kernel_rfl) (by kernel_rfl) (by kernel_rfl) (fun _ _ _ h => h) (by rfl) (by assumption) ?_ ?_
      rotate_left
      · (intro wS hSw; (try dsimp only at hSw); go_simp; try with_reducible rfl)
      try simp only [Act.put, List.setIfInBounds_toArray, List.set_cons_zero, List.set_cons_succ]
      refine uDone (by kernel_rfl) ?_ _
      go_upto_region 20 with (fail)
      have bg := E8.out.bx 2 rfl
      have y1 := bg.cell j (icl_get got j hjg)
      have y2 := bg.frozen j
      clear bg
      have b2 := E8.out.bx 0 rfl
      have c2_3 := b2.cell 3 rfl
      clear b2
      have E9 : Hid (Env D w [(w4.heap.size + 1, 24, [.int .i64 0, .int .i64 1, .int .i64 0, .int .i64 (j : Int), .slice vo 0 vq]), (w4.heap.size, 64, [.int .i64 (FLn ft now (js.eraseIdx f0) (dr ft ft.length)).nw, .slice va (FLn ft now (js.eraseIdx f0) (dr ft ft.length)).L.length vj, .slice vb (FLn ft now (js.eraseIdx f0) (dr ft ft.length)).ats.length vk, .slice vc (FLn ft now (js.eraseIdx f0) (dr ft ft.length)).ft.length vm]), (gg, 3, ((icl got).set j (.int .i64 (got[j] + 1)))), (w3.heap.size, 64, [.int .i64 (FLn ft now js (dr ft ft.length)).nw, .slice na (FLn ft now js (dr ft ft.length)).L.length nj, .slice nb (FLn ft now js (dr ft ft.length)).ats.length nk, .slice nc (FLn ft now js (dr ft ft.length)).ft.length nm])] [.ce fab (fao + j * 2) (.int .i64 ft[j].1), .ce fab (fao + j * 2 + 1) (.int .i64 ft[j].2), .bs (.slice vo 0 vq) [], .rw (.slice vc (FLn ft now (js.eraseIdx f0) (dr ft ft.length)).ft.length vm) (FLn ft now (js.eraseIdx f0) (dr ft ft.length)).ft.length 2 (fcl (FLn ft now (js.eraseIdx f0) (dr ft ft.length)).ft), .rw (.slice vb (FLn ft now (js.eraseIdx f0) (dr ft ft.length)).ats.length vk) (FLn ft now (js.eraseIdx f0) (dr ft ft.length)).ats.length 1 (icl (FLn ft now (js.eraseIdx f0) (dr ft ft.length)).ats), .ms (.slice va (FLn ft now (js.eraseIdx f0) (dr ft ft.length)).L.length vj) (FLn ft now (js.eraseIdx f0) (dr ft ft.length)).L, .ms (.slice na (FLn ft now js (dr ft ft.length)).L.length nj) (FLn ft now js (dr ft ft.length)).L, .rw (.slice nb (FLn ft now js (dr ft ft.length)).ats.length nk) (FLn ft now js (dr ft ft.length)).ats.length 1 (icl (FLn ft now js (dr ft ft.length)).ats), .rw (.slice nc (FLn ft now js (dr ft ft.length)).ft.length nm) (FLn ft now js (dr ft ft.length)).ft.length 2 (fcl (FLn ft now js (dr ft ft.length)).ft), .rw (.slice (some ⟨fab, fao, none⟩) ft.length fk) ft.length 2 (fcl ft)] _) := Lib.hid ((E8.out.set 2 j (.int .i64 (got[j] + 1)) rfl))
      have E10 : Hid (Env D w [(w4.heap.size + 1, 24, [.int .i64 0, .int .i64 1, .int .i64 0, .int .i64 (j : Int), .slice vo 0 vq]), (w4.heap.size, 64, [.int .i64 (FLn ft now (js.eraseIdx f0) (dr ft ft.length)).nw, .slice va (FLn ft now (js.eraseIdx f0) (dr ft ft.length)).L.length vj, .slice vb (FLn ft now (js.eraseIdx f0) (dr ft ft.length)).ats.length vk, .slice vc (FLn ft now (js.eraseIdx f0) (dr ft ft.length)).ft.length vm]), (gg, 3, icl (got.set j (got[j] + 1))), (w3.heap.size, 64, [.int .i64 (FLn ft now js (dr ft ft.length)).nw, .slice na (FLn ft now js (dr ft ft.length)).L.length nj, .slice nb (FLn ft now js (dr ft ft.length)).ats.length nk, .slice nc (FLn ft now js (dr ft ft.length)).ft.length nm])] [.ce fab (fao + j * 2) (.int .i64 ft[j].1), .ce fab (fao + j * 2 + 1) (.int .i64 ft[j].2), .bs (.slice vo 0 vq) [], .rw (.slice vc (FLn ft now (js.eraseIdx f0) (dr ft ft.length)).ft.length vm) (FLn ft now (js.eraseIdx f0) (dr ft ft.length)).ft.length 2 (fcl (FLn ft now (js.eraseIdx f0) (dr ft ft.length)).ft), .rw (.slice vb (FLn ft now (js.eraseIdx f0) (dr ft ft.length)).ats.length vk) (FLn ft now (js.eraseIdx f0) (dr ft ft.length)).ats.length 1 (icl (FLn ft now (js.eraseIdx f0) (dr ft ft.length)).ats), .ms (.slice va (FLn ft now (js.eraseIdx f0) (dr ft ft.length)).L.length vj) (FLn ft now (js.eraseIdx f0) (dr ft ft.length)).L, .ms (.slice na (FLn ft now js (dr ft ft.length)).L.length nj) (FLn ft now js (dr ft ft.length)).L, .rw (.slice nb (FLn ft now js (dr ft ft.length)).ats.length nk) (FLn ft now js (dr ft ft.length)).ats.length 1 (icl (FLn ft now js (dr ft ft.length)).ats), .rw (.slice nc (FLn ft now js (dr ft ft.length)).ft.length nm) (FLn ft now js (dr ft ft.length)).ft.length 2 (fcl (FLn ft now js (dr ft ft.length)).ft), .rw (.slice (some ⟨fab, fao, none⟩) ft.length fk) ft.length 2 (fcl ft)] _) := Lib.hid (by have h := E9.out; rw [icl_set] at h; exact h)
      have b3 := E10.out.bx 1 rfl
      have c3_0 := b3.cell 0 rfl
      have c3_1 := b3.cell 1 rfl
      have c3_2 := b3.cell 2 rfl
      have c3_3 := b3.cell 3 rfl
      clear b3
      have b4 := E10.out.bx 3 rfl
      have c4_0 := b4.cell 0 rfl
      have c4_1 := b4.cell 1 rfl
      have c4_2 := b4.cell 2 rfl
      have c4_3 := b4.cell 3 rfl
      have f4_0 := b4.frozen 0
      have f4_1 := b4.frozen 1
      have f4_2 := b4.frozen 2
      have f4_3 := b4.frozen 3
      clear b4
      have E11 : Hid (Env D w [(w4.heap.size + 1, 24, [.int .i64 0, .int .i64 1, .int .i64 0, .int .i64 (j : Int), .slice vo 0 vq]), (w4.heap.size, 64, [.int .i64 (FLn ft now (js.eraseIdx f0) (dr ft ft.length)).nw, .slice va (FLn ft now (js.eraseIdx f0) (dr ft ft.length)).L.length vj, .slice vb (FLn ft now (js.eraseIdx f0) (dr ft ft.length)).ats.length vk, .slice vc (FLn ft now (js.eraseIdx f0) (dr ft ft.length)).ft.length vm]), (gg, 3, icl (got.set j (got[j] + 1))), (w3.heap.size, 64, [.int .i64 (FLn ft now (js.eraseIdx f0) (dr ft ft.length)).nw, .slice va (FLn ft now (js.eraseIdx f0) (dr ft ft.length)).L.length vj, .slice vb (FLn ft now (js.eraseIdx f0) (dr ft ft.length)).ats.length vk, .slice vc (FLn ft now (js.eraseIdx f0) (dr ft ft.length)).ft.length vm])] [.ce fab (fao + j * 2) (.int .i64 ft[j].1), .ce fab (fao + j * 2 + 1) (.int .i64 ft[j].2), .bs (.slice vo 0 vq) [], .rw (.slice vc (FLn ft now (js.eraseIdx f0) (dr ft ft.length)).ft.length vm) (FLn ft now (js.eraseIdx f0) (dr ft ft.length)).ft.length 2 (fcl (FLn ft now (js.eraseIdx f0) (dr ft ft.length)).ft), .rw (.slice vb (FLn ft now (js.eraseIdx f0) (dr ft ft.length)).ats.length vk) (FLn ft now (js.eraseIdx f0) (dr ft ft.length)).ats.length 1 (icl (FLn ft now (js.eraseIdx f0) (dr ft ft.length)).ats), .ms (.slice va (FLn ft now (js.eraseIdx f0) (dr ft ft.length)).L.length vj) (FLn ft now (js.eraseIdx f0) (dr ft ft.length)).L, .ms (.slice na (FLn ft now js (dr ft ft.length)).L.length nj) (FLn ft now js (dr ft ft.length)).L, .rw (.slice nb (FLn ft now js (dr ft ft.length)).ats.length nk) (FLn ft now js (dr ft ft.length)).ats.length 1 (icl (FLn ft now js (dr ft ft.length)).ats), .rw (.slice nc (FLn ft now js (dr ft ft.length)).ft.length nm) (FLn ft now js (dr ft ft.length)).ft.length 2 (fcl (FLn ft now js (dr ft ft.length)).ft), .rw (.slice (some ⟨fab, fao, none⟩) ft.length fk) ft.length 2 (fcl ft)] _) := Lib.hid (((((E10.out.set 3 0 (.int .i64 (FLn ft now (js.eraseIdx f0) (dr ft ft.length)).nw) rfl).set 3 1 (.slice va (FLn ft now (js.eraseIdx f0) (dr ft ft.length)).L.length vj) rfl).set 3 2 (.slice vb (FLn ft now (js.eraseIdx f0) (dr ft ft.length)).ats.length vk) rfl).set 3 3 (.slice vc (FLn ft now (js.eraseIdx f0) (dr ft ft.length)).ft.length vm) rfl))
      have hZ := ((E11.out.drop).drop)
      have EZ : Hid (Env D w [(gg, 3, icl (got.set j (got[j] + 1))), (w3.heap.size, 64, [.int .i64 (FLn ft now (js.eraseIdx f0) (dr ft ft.length)).nw, .slice va (FLn ft now (js.eraseIdx f0) (dr ft ft.length)).L.length vj, .slice vb (FLn ft now (js.eraseIdx f0) (dr ft ft.length)).ats.length vk, .slice vc (FLn ft now (js.eraseIdx f0) (dr ft ft.length)).ft.length vm])] [.ms (.slice va (FLn ft now (js.eraseIdx f0) (dr ft ft.length)).L.length vj) (FLn ft now (js.eraseIdx f0) (dr ft ft.length)).L, .rw (.slice vb (FLn ft now (js.eraseIdx f0) (dr ft ft.length)).ats.length vk) (FLn ft now (js.eraseIdx f0) (dr ft ft.length)).ats.length 1 (icl (FLn ft now (js.eraseIdx f0) (dr ft ft.length)).ats), .rw (.slice vc (FLn ft now (js.eraseIdx f0) (dr ft ft.length)).ft.length vm) (FLn ft now (js.eraseIdx f0) (dr ft ft.length)).ft.length 2 (fcl (FLn ft now (js.eraseIdx f0) (dr ft ft.length)).ft), .rw (.slice (some ⟨fab, fao, none⟩) ft.length fk) ft.length 2 (fcl ft)] _) := Lib.hid ⟨hZ.bel, hZ.box, ⟨hZ.fc 5 rfl, ⟨hZ.fc 4 rfl, ⟨hZ.fc 3 rfl, ⟨hZ.fc 9 rfl, trivial⟩⟩⟩⟩⟩
      clear hZ
      go_wp2
      go_roundg (600 - (r + 1))
      case rel => exact ⟨r + 1, now, js.eraseIdx f0, got.set j (got[j] + 1), va, vj, vb, vk, vc, vm, rfl, EZ, Lib.hid ⟨⟨by omega, rfl⟩, HI2.out⟩⟩
      case measure => exact by omega
theorem LineFates_walk (ft : List (Int × Int)) {fa : Option Addr} {fk : Nat} {D : Nat → Prop} {w : World} (hx : Fct.at w D (.rw (.slice fa ft.length fk) ft.length 2 (fcl ft))) :
    Calls Try.prog 9 #[.slice fa ft.length fk] w fun e w' => e = .returned (.bool true) ∧ Below w.heap.size w w' := by
  by_cases h : 60 < ft.length
  · exact fat_long ft hx h
  · by_cases hF : FatsOk ft
    · exact fat_main ft hx (by omega) hF
    · exact fat_bad ft hx (by omega) hF
end Go.Proofs.Ytbcfcdcomboljaa

/- poly: trim, Trim, Eval. -/
import Derived.Test.YteipbcpnnojclaaDoorPolE
namespace Go.Proofs.YteipbcpnnojclaaDoor
open Go.RowKit DivMath WordMath
set_option linter.unusedVariables false
set_option linter.unusedSimpArgs false
/-- without zeros at the end -/
def trimN (l : List Nat) : List Nat := (l.reverse.dropWhile (· == 0)).reverse
theorem trimN_len (l : List Nat) : (trimN l).length ≤ l.length := by
  unfold trimN
  have := (List.dropWhile_sublist (fun x : Nat => x == 0) (l := l.reverse)).length_le
  simpa using this
theorem trimN_nil : trimN [] = [] := rfl
theorem trimN_snoc (l : List Nat) (x : Nat) : trimN (l ++ [x]) = if x = 0 then trimN l else l ++ [x] := by
  unfold trimN
  rw [List.reverse_append, List.reverse_singleton, List.singleton_append, List.dropWhile_cons]
  by_cases h : x = 0 <;> simp [h]
theorem take_pred {l : List Nat} {n : Nat} (h0 : 0 < n) (hn : n ≤ l.length) : l.take n = l.take (n - 1) ++ [l[n - 1]] := by
  obtain ⟨m, rfl⟩ : ∃ m, n = m + 1 := ⟨n - 1, by omega⟩
  simp only [Nat.add_sub_cancel]
  rw [List.take_add_one, List.getElem?_eq_getElem (by omega)]; rfl
theorem trimN_zero {l : List Nat} {n : Nat} (h0 : 0 < n) (hn : n ≤ l.length) (hz : l[n - 1] = 0) : trimN (l.take n) = trimN (l.take (n - 1)) := by rw [take_pred h0 hn, trimN_snoc, if_pos hz]
theorem trimN_some {l : List Nat} {n : Nat} (h0 : 0 < n) (hn : n ≤ l.length) (hz : ¬ l[n - 1] = 0) : trimN (l.take n) = l.take n := by rw [take_pred h0 hn, trimN_snoc, if_neg hz]
theorem trimN_lt {q : Nat} {l : List Nat} (h : ∀ c ∈ l, c < q) : ∀ c ∈ trimN l, c < q := fun c hc => by
  unfold trimN at hc
  rw [List.mem_reverse] at hc
  exact h c (List.mem_reverse.1 ((List.dropWhile_sublist _).subset hc))
theorem Rw.takeN {W : World} {D : Nat → Prop} {a : Option Addr} {c n : Nat} {l : List Nat} (h : Rw W D (.slice a l.length c) l.length 1 (ncl l)) (hn : n ≤ l.length) : Rw W D (.slice a (l.take n).length c) (l.take n).length 1 (ncl (l.take n)) := by
  obtain ⟨ao, cap, h1, h2, h3, h4, h5, h6⟩ := h
  simp only [Value.slice.injEq, true_and] at h1
  obtain ⟨rfl, rfl⟩ := h1
  have hl : (l.take n).length = n := by simp; omega
  have hc : ncl (l.take n) = (ncl l).take n := by simp [ncl, nl, icl, List.map_take]
  rw [hl]
  refine ⟨_, _, rfl, by omega, h3, by rw [ncl_len, hl], ncl_one _, fun hne => ?_⟩
  obtain ⟨b, off, e, hb, hi⟩ := h6 (by omega)
  refine ⟨b, off, e, hb, fun i u hu => hi i u ?_⟩
  rw [hc, List.getElem?_take] at hu
  split at hu
  · exact hu
  · cases hu
theorem Rw.cap {W : World} {D : Nat → Prop} {a : Option Addr} {n k c : Nat} {cs : List Value} (h : Rw W D (.slice a n c) n k cs) : n ≤ c ∧ (c : Int) ≤ 9223372036854775807 := by
  obtain ⟨ao, cap, h1, h2, h3, _⟩ := h
  simp only [Value.slice.injEq, true_and] at h1
  obtain ⟨_, rfl⟩ := h1
  exact ⟨h2, by omega⟩
theorem RetI.mono {D D' : Nat → Prop} {l : List Nat} {e : Ending} {W : World} (h : RetI D l e W) (hD : ∀ b, D b → D' b) : RetI D' l e W := by
  obtain ⟨ao, k, h1, h2⟩ := h
  exact ⟨ao, k, h1, Lib.hid (h2.out.turn (Nat.le_refl _) (fun b _ hb => hD b hb) (fun _ _ _ _ => rfl))⟩
theorem cloneN_c {D : Nat → Prop} {v : Value} {l : List Nat} {w : World} (h : Fct.at w D (.rw v l.length 1 (ncl l))) (hl : l.length ≤ 1000000) :
    Calls Tryd.prog 39 #[v] w fun e w' => RetI (fun b => w.heap.size ≤ b) l e w' ∧ Below w.heap.size w w' :=
  (cloneRInt h hl).mono fun e w' ⟨⟨v', h1, h2⟩, hb⟩ => by
    have h3 := Rw.ofOwns h2 (ncl_one l)
    obtain ⟨ao, k, rfl⟩ := h3.len
    exact ⟨⟨ao, k, h1, Lib.hid h3⟩, hb⟩
theorem Rw.ge {W : World} {D : Nat → Prop} {B n k : Nat} {v : Value} {cs : List Value} (h : Rw W (fun b => B ≤ b) v n k cs) : Rw W (fun b => D b ∨ B ≤ b) v n k cs := h.turn (Nat.le_refl _) (fun _ _ h => .inr h) (fun _ _ _ _ => rfl)
theorem Rw.from {W : World} {B B' n k : Nat} {v : Value} {cs : List Value} (h : Rw W (fun b => B' ≤ b) v n k cs) (hB : B ≤ B') : Rw W (fun b => B ≤ b) v n k cs := h.turn (Nat.le_refl _) (fun _ _ h => Nat.le_trans hB h) (fun _ _ _ _ => rfl)
set_option maxRecDepth 100000 in
set_option maxHeartbeats 1000000 in
theorem trim_c {D : Nat → Prop} (l : List Nat) {xa : Option Addr} {xk : Nat} {w : World} (hx : Fct.at w D (.rw (.slice xa l.length xk) l.length 1 (ncl l))) (hm : l.length ≤ 1000000) :
    Calls Tryd.prog 74 #[.slice xa l.length xk] w fun e w' => RetI (fun b => w.heap.size ≤ b) (trimN l) e w' ∧ Below w.heap.size w w' := by
  have E0 : Hid (Env D w [] [.rw (.slice xa l.length xk) l.length 1 (ncl l)] w) := Lib.hid ((Env.start D w).arg (.rw (.slice xa l.length xk) l.length 1 (ncl l)) hx)
  clear hx
  go_enter Tryd.func74, Tryd.ntmps74
  go_wp2_with fail
  go_loopg [3] (l.length) (fun gk s3 wr => ∃ (n : Nat), s3 = .int .i64 (n : Int) ∧ Hid (Env D w [] [.rw (.slice xa l.length xk) l.length 1 (ncl l)] wr) ∧ Hid ((n ≤ l.length ∧ gk = n) ∧ trimN (l.take n) = trimN l))
  case atStart => exact ⟨l.length, rfl, Lib.hid E0.out, Lib.hid ⟨⟨Nat.le_refl _, rfl⟩, by rw [List.take_length]⟩⟩
  case round =>
    clear E0
    obtain ⟨n, rfl, EL, HA⟩ := hrel
    obtain ⟨⟨a1, a2⟩, a3⟩ := HA.out
    have HS := Lib.hid a3
    clear a3 HA
    have hn9 : (n : Int) ≤ 1000000 := by omega
    by_cases hy : n = 0
    · have d2 : decide ((0 : Int) < (n : Int)) = false := decide_eq_false (by omega)
      have d2n : decide (0 < n) = false := decide_eq_false (by omega)
      have HT : Hid (l.take n = trimN l) := Lib.hid (by rw [← HS.out, hy]; rfl)
      have HY := Lib.hid hy
      clear hy
      have hln : (l.take n).length = n := by simp; omega
      obtain ⟨hcap, hcap9⟩ := Rw.cap (EL.out.fc 0 rfl)
      have hnk : n ≤ xk := by omega
      have hnk2 : (n : Int) ≤ (xk : Int) := by omega
      go_wp2_with fail
      have cc := cloneN_c (Rw.takeN (EL.out.fc 0 rfl) a1) (by simp; omega)
      have CC := Lib.hid cc
      clear cc
      rw [hln] at CC
      refine CC.out.mono ?_
      rintro e w1 ⟨⟨za, zk, rfl, zh⟩, hb⟩
      have zh2 : Hid (Rw w1 (fun b => wr.heap.size ≤ b) (.slice za (trimN l).length zk) (trimN l).length 1 (ncl (trimN l))) := Lib.hid (by have h := zh.out; rw [HT.out] at h; exact h)
      have hzl : (l.take n).length = (trimN l).length := by rw [HT.out]
      rw [hzl]
      clear CC zh hzl
      have hsz := Lib.hid EL.out.bel.size
      have hbel := Lib.hid (EL.out.below hb).bel
      clear EL hb
      go_wp2
      go_ret
      exact ⟨⟨za, zk, rfl, Lib.hid (Rw.from zh2.out hsz.out)⟩, hbel.out⟩
    · have d2 : decide ((0 : Int) < (n : Int)) = true := decide_eq_true (by omega)
      have d2n : decide (0 < n) = true := decide_eq_true (by omega)
      have d4 : wrap64 ((n : Int) - 1) = ((n - 1 : Nat) : Int) := by rw [IntWalk.wrap64_in _ (by omega)]; omega
      have d5 : (n : Int) - 1 = ((n - 1 : Nat) : Int) := by omega
      have hk : n - 1 < l.length := by omega
      obtain ⟨xab, xao, rfl⟩ := Rw.addr (EL.out.fc 0 rfl) (by omega)
      have E1 : Hid (Env D w [] [.ce xab (xao + (n - 1)) (.int .i64 (l[n - 1] : Nat)), .rw (.slice (some ⟨xab, xao, none⟩) l.length xk) l.length 1 (ncl l)] _) := Lib.hid (EL.out.elN 0 rfl rfl (n - 1) hk)
      clear EL
      have u0 := (E1.out.fc 0 rfl).2
      by_cases hz : l[n - 1] = 0
      · have HR : Hid (trimN (l.take (n - 1)) = trimN l) := Lib.hid (by rw [← trimN_zero (by omega) a1 hz]; exact HS.out)
        have d3 : ((l[n - 1] : Nat) : Int) = 0 := by omega
        have d6 : (((l[n - 1] : Nat) : Int) == 0) = true := by simp; omega
        have d7 : (l[n - 1] == 0) = true := by simp; omega
        clear hz d3
        have EZ := Lib.hid (E1.out.forget)
        go_wp2
        go_roundg (n - 1)
        case rel => exact ⟨n - 1, rfl, EZ, Lib.hid ⟨⟨by omega, rfl⟩, HR.out⟩⟩
        case measure => exact by omega
      · have HT : Hid (l.take n = trimN l) := Lib.hid (by rw [← HS.out, trimN_some (by omega) a1 hz])
        have d6 : (((l[n - 1] : Nat) : Int) == 0) = false := by simp; omega
        have d7 : (l[n - 1] == 0) = false := by simp; omega
        clear hz
        have hln : (l.take n).length = n := by simp; omega
        obtain ⟨hcap, hcap9⟩ := Rw.cap (E1.out.fc 1 rfl)
        have hnk : n ≤ xk := by omega
        have hnk2 : (n : Int) ≤ (xk : Int) := by omega
        go_wp2_with fail
        have cc := cloneN_c (Rw.takeN (E1.out.fc 1 rfl) a1) (by simp; omega)
        have CC := Lib.hid cc
        clear cc
        rw [hln] at CC
        refine CC.out.mono ?_
        rintro e w1 ⟨⟨za, zk, rfl, zh⟩, hb⟩
        have zh2 : Hid (Rw w1 (fun b => wr.heap.size ≤ b) (.slice za (trimN l).length zk) (trimN l).length 1 (ncl (trimN l))) := Lib.hid (by have h := zh.out; rw [HT.out] at h; exact h)
        have hzl : (l.take n).length = (trimN l).length := by rw [HT.out]
        rw [hzl]
        clear CC zh hzl
        have hsz := Lib.hid E1.out.bel.size
        have hbel := Lib.hid (E1.out.below hb).bel
        clear E1 hb
        go_wp2
        go_ret
        exact ⟨⟨za, zk, rfl, Lib.hid (Rw.from zh2.out hsz.out)⟩, hbel.out⟩
end Go.Proofs.YteipbcpnnojclaaDoor

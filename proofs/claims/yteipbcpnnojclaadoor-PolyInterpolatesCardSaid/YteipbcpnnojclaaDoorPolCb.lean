/- poly: the reference: Interpolate. -/
import Derived.Test.YteipbcpnnojclaaDoorPolCa
namespace Go.Proofs.YteipbcpnnojclaaDoor
open Go.RowKit DivMath WordMath
set_option linter.unusedVariables false
set_option linter.unusedSimpArgs false
/-- the reference's product of the x - a[j] over the places j below k, but i -/
def oneL (q : Nat) (a : List Nat) (i : Nat) : Nat → List Nat
  | 0 => [1]
  | k + 1 => if k = i then oneL q a i k else trimN (mulL q (oneL q a i k) (trimN [(q - a.getD k 0) % q, 1]))
/-- the reference's sum behind k points -/
def RIt (q : Nat) (a b : List Nat) : Nat → List Nat → Prop
  | 0, u => u = []
  | k + 1, u => ∃ u0 r, RIt q a b k u0 ∧ r < q ∧ wM q (a.getD k 0) a k a.length * r % q = 1 % q ∧ u = trimN (addL q u0 (trimN (mulL q (oneL q a k a.length) (trimN [b.getD k 0 * r % q]))))
theorem oneL_lt {q : Nat} (hq : 1 < q) (a : List Nat) (i : Nat) : ∀ k, ∀ c ∈ oneL q a i k, c < q
  | 0 => fun c hc => by rw [List.mem_singleton.1 hc]; exact hq
  | k + 1 => by
    unfold oneL; split
    · exact oneL_lt hq a i k
    · exact trimN_lt (mulL_lt (by omega) _ _)
theorem oneL_len (q : Nat) (a : List Nat) (i : Nat) : ∀ k, (oneL q a i k).length ≤ (if i < k then k else k + 1)
  | 0 => by simp [oneL]
  | k + 1 => by
    have ih := oneL_len q a i k
    unfold oneL; split
    · rename_i h
      subst h
      rw [if_neg (Nat.lt_irrefl _)] at ih
      rw [if_pos (by omega)]; exact ih
    · refine Nat.le_trans (trimN_len _) (Nat.le_trans (mulL_le _ _ _) ?_)
      have := trimN_len [(q - a.getD k 0) % q, 1]
      simp only [List.length_cons, List.length_nil] at this
      split at ih <;> split <;> omega
theorem RIt_len {q : Nat} (hq : 1 < q) {a b : List Nat} : ∀ {k u}, k ≤ a.length → RIt q a b k u → u.length ≤ a.length ∧ ∀ c ∈ u, c < q
  | 0, u, _, h => by
    obtain rfl : u = [] := h
    exact ⟨Nat.zero_le _, by simp⟩
  | k + 1, u, hk, h => by
    obtain ⟨u0, r, h1, h2, h3, rfl⟩ := h
    obtain ⟨l1, b1⟩ := RIt_len hq (by omega) h1
    refine ⟨?_, trimN_lt (addL_lt (by omega) _ _)⟩
    refine Nat.le_trans (trimN_len _) ?_
    rw [addL_len]
    have e1 := trimN_len (mulL q (oneL q a k a.length) (trimN [b.getD k 0 * r % q]))
    have e2 := mulL_le q (oneL q a k a.length) (trimN [b.getD k 0 * r % q])
    have e3 := trimN_len [b.getD k 0 * r % q]
    have e4 := oneL_len q a k a.length
    rw [if_pos (by omega)] at e4
    simp only [List.length_singleton] at e3
    omega
set_option maxRecDepth 100000 in
set_option maxHeartbeats 4000000 in
theorem rInterp_c {D : Nat → Prop} (q : Nat) (a b : List Nat) {xa ya : Option Addr} {xk yk : Nat} {w : World} (hx : Fct.at w D (.rw (.slice xa a.length xk) a.length 1 (ncl a))) (hy : Fct.at w D (.rw (.slice ya b.length yk) b.length 1 (ncl b))) (hqT : (q : Int) < Top) (hq1 : 1 < q) (hab : a.length = b.length) (hlen : a.length ≤ 100) (hr0 : ∀ c ∈ a, c < q) (hs0 : ∀ c ∈ b, c < q) (hg0 : ∀ i, i < a.length → Nat.gcd (wM q (a.getD i 0) a i a.length) q = 1) :
    Calls Tryd.prog 20 #[.int .i64 (q : Nat), .slice xa a.length xk, .slice ya b.length yk] w fun e w' => (∃ u : List Nat, Hid (RIt q a b a.length u) ∧ RetI (fun _ => True) u e w') ∧ Below w.heap.size w w' := by
  have E0 : Hid (Env D w [] [.rw (.slice ya b.length yk) b.length 1 (ncl b), .rw (.slice xa a.length xk) a.length 1 (ncl a)] w) := Lib.hid (((Env.start D w).arg (.rw (.slice xa a.length xk) a.length 1 (ncl a)) hx).arg (.rw (.slice ya b.length yk) b.length 1 (ncl b)) hy)
  clear hx hy
  go_enter Tryd.func20, Tryd.ntmps20
  have hr := Lib.hid hr0
  have hs := Lib.hid hs0
  have hg := Lib.hid hg0
  clear hr0 hs0 hg0
  have HT := Lib.hid hqT
  have hq9 : (q : Int) ≤ 2305843009213693951 := by unfold Top at hqT; omega
  clear hqT
  have hq0 : ¬ (q = 0) := by omega
  have hqz : ((q : Int) == 0) = false := beq_eq_false_iff_ne.2 (by omega)
  have HQ : Hid (0 < q) := Lib.hid (by omega)
  have HQ1 := Lib.hid hq1
  have H1 : Hid (1 = 1 % q) := Lib.hid (Nat.mod_eq_of_lt hq1).symm
  have HAB := Lib.hid hab
  clear hab
  go_wp2_with fail
  have E1 : Hid (Env D w [] [.rw (.slice none ([] : List Nat).length 0) ([] : List Nat).length 1 (ncl []), .rw (.slice ya b.length yk) b.length 1 (ncl b), .rw (.slice xa a.length xk) a.length 1 (ncl a)] w) := Lib.hid (E0.out.note _ (Rw.nil _ _ _))
  go_loopg [7, 8] (a.length) (fun gk s7 s8 wr => ∃ (ua : Option Addr) (uk : Nat) (u : List Nat) (i : Nat), s7 = .slice ua u.length uk ∧ s8 = .int .i64 (i : Int) ∧ Hid (Env D w [] [.rw (.slice ua u.length uk) u.length 1 (ncl u), .rw (.slice ya b.length yk) b.length 1 (ncl b), .rw (.slice xa a.length xk) a.length 1 (ncl a)] wr) ∧ Hid ((i ≤ a.length ∧ gk = a.length - i) ∧ RIt q a b i u))
  case atStart => exact ⟨none, 0, [], 0, rfl, rfl, Lib.hid E1.out, Lib.hid ⟨⟨Nat.zero_le _, rfl⟩, rfl⟩⟩
  case round =>
    clear E0 E1
    obtain ⟨ua, uk, u, i, rfl, rfl, EL, HA⟩ := hrel
    obtain ⟨⟨a1, a2⟩, a3⟩ := HA.out
    have HS := Lib.hid a3
    clear a3 HA
    by_cases hy : i = a.length
    rotate_left
    · have hi : i < a.length := by omega
      have t6 : decide ((i : Int) < (a.length : Int)) = true := decide_eq_true (by omega)
      have t7 : decide (i < a.length) = true := decide_eq_true hi
      clear hy
      have hi9 : (i : Int) ≤ 99 := by omega
      have hib : i < b.length := by have := HAB.out; omega
      have HUL := Lib.hid (RIt_len HQ1.out (Nat.le_of_lt hi) HS.out)
      have hiq : ((a[i] : Nat) : Int) < (q : Int) := Int.ofNat_lt.2 (hr.out _ (List.getElem_mem hi))
      have hyq : ((b[i] : Nat) : Int) < (q : Int) := Int.ofNat_lt.2 (hs.out _ (List.getElem_mem hib))
      obtain ⟨xab, xao, rfl⟩ := Rw.addr (EL.out.fc 2 rfl) (by omega)
      have E2 : Hid (Env D w [] [.ce xab (xao + i) (.int .i64 (a[i] : Nat)), .rw (.slice ua u.length uk) u.length 1 (ncl u), .rw (.slice ya b.length yk) b.length 1 (ncl b), .rw (.slice (some ⟨xab, xao, none⟩) a.length xk) a.length 1 (ncl a)] _) := Lib.hid (EL.out.elN 2 rfl rfl (i) hi)
      clear EL
      have p0 := (E2.out.fc 0 rfl).2
      obtain ⟨yab, yao, rfl⟩ := Rw.addr (E2.out.fc 2 rfl) (by omega)
      have E3 : Hid (Env D w [] [.ce yab (yao + i) (.int .i64 (b[i] : Nat)), .ce xab (xao + i) (.int .i64 (a[i] : Nat)), .rw (.slice ua u.length uk) u.length 1 (ncl u), .rw (.slice (some ⟨yab, yao, none⟩) b.length yk) b.length 1 (ncl b), .rw (.slice (some ⟨xab, xao, none⟩) a.length xk) a.length 1 (ncl a)] _) := Lib.hid (E2.out.elN 2 rfl rfl (i) hib)
      clear E2
      have o0 := (E3.out.fc 0 rfl).2
      go_wp2_with fail
      have E4 : Hid (Env D w [(wr.heap.size, 3, [.int .i64 1])] [.ce yab (yao + i) (.int .i64 (b[i] : Nat)), .ce xab (xao + i) (.int .i64 (a[i] : Nat)), .rw (.slice ua u.length uk) u.length 1 (ncl u), .rw (.slice (some ⟨yab, yao, none⟩) b.length yk) b.length 1 (ncl b), .rw (.slice (some ⟨xab, xao, none⟩) a.length xk) a.length 1 (ncl a)] _) := Lib.hid ((E3.out.push 3 [.int .i64 1] (wr.heap.size) (by simp)))
      have E5 : Hid (Env D w [] [.rw (.slice (some ⟨wr.heap.size, 0, none⟩) [1].length [1].length) [1].length 1 (ncl [1]), .ce yab (yao + i) (.int .i64 (b[i] : Nat)), .ce xab (xao + i) (.int .i64 (a[i] : Nat)), .rw (.slice ua u.length uk) u.length 1 (ncl u), .rw (.slice (some ⟨yab, yao, none⟩) b.length yk) b.length 1 (ncl b), .rw (.slice (some ⟨xab, xao, none⟩) a.length xk) a.length 1 (ncl a)] (wr.alloc (.cells #[.int .i64 1] 3))) := Lib.hid (Env.freezeN [1] E4.out (by simp))
      go_loopg [9, 10, 11] (a.length) (fun gk s9 s10 s11 wr => ∃ (va : Option Addr) (vk : Nat) (v : List Nat) (u1 k : Nat), s9 = .slice va v.length vk ∧ s10 = .int .i64 (u1 : Int) ∧ s11 = .int .i64 (k : Int) ∧ Hid (Env D w [] [.rw (.slice va v.length vk) v.length 1 (ncl v), .ce yab (yao + i) (.int .i64 (b[i] : Nat)), .ce xab (xao + i) (.int .i64 (a[i] : Nat)), .rw (.slice ua u.length uk) u.length 1 (ncl u), .rw (.slice (some ⟨yab, yao, none⟩) b.length yk) b.length 1 (ncl b), .rw (.slice (some ⟨xab, xao, none⟩) a.length xk) a.length 1 (ncl a)] wr) ∧ Hid ((k ≤ a.length ∧ gk = a.length - k) ∧ v = oneL q a i k ∧ u1 = wM q a[i] a i k))
      case atStart => exact ⟨some ⟨wr.heap.size, 0, none⟩, 1, [1], 1, 0, rfl, rfl, rfl, Lib.hid E5.out, Lib.hid ⟨⟨Nat.zero_le _, rfl⟩, rfl, H1.out⟩⟩
      case round =>
        clear p0 o0 E3 E4 E5
        obtain ⟨va, vk, v, u1, k, rfl, rfl, rfl, EL, HA⟩ := hrel
        obtain ⟨⟨b1, b2⟩, b3, b4⟩ := HA.out
        have HV := Lib.hid b3
        have HU1 := Lib.hid b4
        clear b3 b4 HA
        have hu1 : (u1 : Int) < (q : Int) := by rw [HU1.out]; exact Int.ofNat_lt.2 (wM_lt HQ.out _ _ _ _)
        have HVL : Hid (v.length ≤ 102 ∧ ∀ c ∈ v, c < q) := Lib.hid ⟨by rw [HV.out]; refine Nat.le_trans (oneL_len q a i k) ?_; split <;> omega, by rw [HV.out]; exact oneL_lt HQ1.out a i k⟩
        by_cases hy : k = a.length
        rotate_left
        · have hk : k < a.length := by omega
          have t8 : decide ((k : Int) < (a.length : Int)) = true := decide_eq_true (by omega)
          have t9 : decide (k < a.length) = true := decide_eq_true hk
          clear hy
          have hk9 : (k : Int) ≤ 99 := by omega
          have hkq : ((a[k] : Nat) : Int) < (q : Int) := Int.ofNat_lt.2 (hr.out _ (List.getElem_mem hk))
          have E6 : Hid (Env D w [] [.ce xab (xao + k) (.int .i64 (a[k] : Nat)), .rw (.slice va v.length vk) v.length 1 (ncl v), .ce yab (yao + i) (.int .i64 (b[i] : Nat)), .ce xab (xao + i) (.int .i64 (a[i] : Nat)), .rw (.slice ua u.length uk) u.length 1 (ncl u), .rw (.slice (some ⟨yab, yao, none⟩) b.length yk) b.length 1 (ncl b), .rw (.slice (some ⟨xab, xao, none⟩) a.length xk) a.length 1 (ncl a)] _) := Lib.hid (EL.out.elN 5 rfl rfl (k) hk)
          clear EL
          have v0 := (E6.out.fc 0 rfl).2
          by_cases hki : k = i
          · have n1 : ((k : Int) == (i : Int)) = true := beq_iff_eq.2 (by omega)
            have n2 : (k == i) = true := beq_iff_eq.2 hki
            have n3 : ((k : Int) != (i : Int)) = false := by rw [bne, n1]; rfl
            have n4 : (k != i) = false := by rw [bne, n2]; rfl
            have HKI := Lib.hid hki
            clear hki
            have EZ := Lib.hid (E6.out.forget)
            go_wp2
            go_roundg (a.length - (k + 1))
            case rel => exact ⟨va, vk, v, u1, k + 1, rfl, rfl, rfl, EZ, Lib.hid ⟨⟨by omega, rfl⟩, by rw [HV.out]; show _ = (if k = i then _ else _); rw [if_pos HKI.out], by rw [wM_same HKI.out]; exact HU1.out⟩⟩
            case measure => exact by omega
          · have n1 : ((k : Int) == (i : Int)) = false := beq_eq_false_iff_ne.2 (by omega)
            have n2 : (k == i) = false := beq_eq_false_iff_ne.2 hki
            have n3 : ((k : Int) != (i : Int)) = true := by rw [bne, n1]; rfl
            have n4 : (k != i) = true := by rw [bne, n2]; rfl
            have HKI := Lib.hid hki
            clear hki
            obtain ⟨s1, s1e⟩ : ∃ s1, s1 = q - a[k] := ⟨_, rfl⟩
            have s1c : (q : Int) - ((a[k] : Nat) : Int) = (s1 : Int) := by omega
            have s19 : -9223372036854775808 ≤ (s1 : Int) ∧ (s1 : Int) ≤ 9223372036854775807 := by omega
            have s1b : ∀ z : Int, z = (a[k] : Nat) → wrap64 ((q : Int) - z) = (s1 : Int) := fun z hz => by rw [hz, s1c]; exact IntWalk.wrap64_in _ s19
            clear s19
            have s1E := Lib.hid s1e
            clear s1e
            have s1q : ((s1 % q : Nat) : Int) < (q : Int) := Int.ofNat_lt.2 (Nat.mod_lt _ HQ.out)
            have HP1 : Hid ((∀ c ∈ trimN [s1 % q, 1], c < q) ∧ (trimN [s1 % q, 1]).length ≤ 2) := Lib.hid ⟨trimN_lt (fun c hc => by rcases List.mem_cons.1 hc with h | h; (· rw [h]; exact Nat.mod_lt _ HQ.out); rw [List.mem_singleton.1 h]; exact HQ1.out), trimN_len _⟩
            have E7 : Hid (Env D w [(wr.heap.size, 3, [.int .i64 ((s1 % q : Nat) : Int), .int .i64 1])] [.ce xab (xao + k) (.int .i64 (a[k] : Nat)), .rw (.slice va v.length vk) v.length 1 (ncl v), .ce yab (yao + i) (.int .i64 (b[i] : Nat)), .ce xab (xao + i) (.int .i64 (a[i] : Nat)), .rw (.slice ua u.length uk) u.length 1 (ncl u), .rw (.slice (some ⟨yab, yao, none⟩) b.length yk) b.length 1 (ncl b), .rw (.slice (some ⟨xab, xao, none⟩) a.length xk) a.length 1 (ncl a)] _) := Lib.hid ((E6.out.push 3 [.int .i64 ((s1 % q : Nat) : Int), .int .i64 1] (wr.heap.size) (by simp)))
            go_wp2_with fail
            refine (rTrim_c [s1 % q, 1] (Rw.boxP (o := [s1 % q, 1]) (E7.out.bx 0 rfl) (Nat.le_refl _) (by simp)) (by simp)).mono ?_
            rintro e w1 ⟨⟨ma, mk, rfl, mh⟩, hb⟩
            have E8 : Hid (Env D w [(wr.heap.size, 3, [.int .i64 ((s1 % q : Nat) : Int), .int .i64 1])] [.rw (.slice ma (trimN [s1 % q, 1]).length mk) (trimN [s1 % q, 1]).length 1 (ncl (trimN [s1 % q, 1])), .ce xab (xao + k) (.int .i64 (a[k] : Nat)), .rw (.slice va v.length vk) v.length 1 (ncl v), .ce yab (yao + i) (.int .i64 (b[i] : Nat)), .ce xab (xao + i) (.int .i64 (a[i] : Nat)), .rw (.slice ua u.length uk) u.length 1 (ncl u), .rw (.slice (some ⟨yab, yao, none⟩) b.length yk) b.length 1 (ncl b), .rw (.slice (some ⟨xab, xao, none⟩) a.length xk) a.length 1 (ncl a)] w1) := Lib.hid (E7.out.got (E7.out.below hb) (.rw (.slice ma (trimN [s1 % q, 1]).length mk) (trimN [s1 % q, 1]).length 1 (ncl (trimN [s1 % q, 1]))) (Lib.hid (Rw.ge mh.out)).out)
            clear v0 E6 E7 hb
            go_wp2_with fail
            refine (rMul_c q v (trimN [s1 % q, 1]) (Rw.tr (E8.out.fc 2 rfl)) (Rw.tr (E8.out.fc 0 rfl)) HQ.out HT.out HVL.out.2 HP1.out.1 (by have := HVL.out.1; omega) (by have := HP1.out.2; omega)).mono ?_
            rintro e w2 ⟨⟨ta, tk, rfl, th⟩, hb⟩
            have E9 : Hid (Env D w [(wr.heap.size, 3, [.int .i64 ((s1 % q : Nat) : Int), .int .i64 1])] [.rw (.slice ta (trimN (mulL q v (trimN [s1 % q, 1]))).length tk) (trimN (mulL q v (trimN [s1 % q, 1]))).length 1 (ncl (trimN (mulL q v (trimN [s1 % q, 1])))), .rw (.slice ma (trimN [s1 % q, 1]).length mk) (trimN [s1 % q, 1]).length 1 (ncl (trimN [s1 % q, 1])), .ce xab (xao + k) (.int .i64 (a[k] : Nat)), .rw (.slice va v.length vk) v.length 1 (ncl v), .ce yab (yao + i) (.int .i64 (b[i] : Nat)), .ce xab (xao + i) (.int .i64 (a[i] : Nat)), .rw (.slice ua u.length uk) u.length 1 (ncl u), .rw (.slice (some ⟨yab, yao, none⟩) b.length yk) b.length 1 (ncl b), .rw (.slice (some ⟨xab, xao, none⟩) a.length xk) a.length 1 (ncl a)] w2) := Lib.hid (E8.out.got (E8.out.below hb) (.rw (.slice ta (trimN (mulL q v (trimN [s1 % q, 1]))).length tk) (trimN (mulL q v (trimN [s1 % q, 1]))).length 1 (ncl (trimN (mulL q v (trimN [s1 % q, 1]))))) (Lib.hid (Rw.ge th.out)).out)
            clear E8 hb
            go_wp2_with fail
            clear s1b s1c
            obtain ⟨s3, s3e⟩ : ∃ s3, s3 = a[i] + (q - a[k]) := ⟨_, rfl⟩
            have s3c : (a[i] : Int) + (q : Int) - ((a[k] : Nat) : Int) = (s3 : Int) := by omega
            have s39 : -9223372036854775808 ≤ (s3 : Int) ∧ (s3 : Int) ≤ 9223372036854775807 := by omega
            have s38 : -9223372036854775808 ≤ (a[i] : Int) + (q : Int) ∧ (a[i] : Int) + (q : Int) ≤ 9223372036854775807 := by omega
            have s3b : ∀ z : Int, z = (a[k] : Nat) → wrap64 ((a[i] : Int) + (q : Int) - z) = (s3 : Int) := fun z hz => by rw [hz, s3c]; exact IntWalk.wrap64_in _ s39
            have s3a : ∀ z : Int, z = (q : Int) → wrap64 ((a[i] : Int) + z) = (a[i] : Int) + (q : Int) := fun z hz => by rw [hz]; exact IntWalk.wrap64_in _ s38
            clear s39 s38
            have s3E := Lib.hid s3e
            clear s3e
            have s3q : ((s3 % q : Nat) : Int) < (q : Int) := Int.ofNat_lt.2 (Nat.mod_lt _ HQ.out)
            have E10 : Hid (Env D w [(wr.heap.size, 3, [.int .i64 ((s1 % q : Nat) : Int), .int .i64 1])] [.rw (.slice ta (trimN (mulL q v (trimN [s1 % q, 1]))).length tk) (trimN (mulL q v (trimN [s1 % q, 1]))).length 1 (ncl (trimN (mulL q v (trimN [s1 % q, 1])))), .rw (.slice ma (trimN [s1 % q, 1]).length mk) (trimN [s1 % q, 1]).length 1 (ncl (trimN [s1 % q, 1])), .ce xab (xao + k) (.int .i64 (a[k] : Nat)), .rw (.slice va v.length vk) v.length 1 (ncl v), .ce yab (yao + i) (.int .i64 (b[i] : Nat)), .ce xab (xao + i) (.int .i64 (a[i] : Nat)), .rw (.slice ua u.length uk) u.length 1 (ncl u), .rw (.slice (some ⟨yab, yao, none⟩) b.length yk) b.length 1 (ncl b), .rw (.slice (some ⟨xab, xao, none⟩) a.length xk) a.length 1 (ncl a)] (w2.drew)) := Lib.hid E9.out.drew
            clear E9
            refine wp_regionU (S := fun w' => w'.cell? ⟨xab, xao + i, none⟩ = some (.int .i64 (a[i] : Nat)) ∧ w'.cell? ⟨xab, xao + k, none⟩ = some (.int .i64 (a[k] : Nat))) [] (by kernel_rfl) (⟨(E10.out.fc 5 rfl).2, (E10.out.fc 2 rfl).2⟩) (fun hHeld => ?_)
            generalize w2.drew = w3 at *
            refine uTake (i := 0) (some 43) (v := ?_) rfl rfl (by kernel_rfl) (by kernel_rfl) (by kernel_rfl) (by kernel_rfl) (fun _ _ _ h => h) (by rfl) (by assumption) ?_ ?_
            rotate_left
            · (intro wS hSw; (try dsimp only at hSw); go_simp; try with_reducible rfl)
            try simp only [Act.put, List.setIfInBounds_toArray, List.set_cons_zero, List.set_cons_succ]
            refine uTake (i := 1) (some 44) (v := ?_) rfl rfl (by kernel_rfl) (by kernel_rfl) (by kernel_rfl) (by kernel_rfl) (fun _ _ _ h => h) (by rfl) (by assumption) ?_ ?_
            rotate_left
            · (intro wS hSw; (try dsimp only at hSw); go_simp; try with_reducible rfl)
            try simp only [Act.put, List.setIfInBounds_toArray, List.set_cons_zero, List.set_cons_succ]
            refine uTake (i := 2) (some 45) (v := ?_) rfl rfl (by kernel_rfl) (by kernel_rfl) (by kernel_rfl) (by kernel_rfl) (fun _ _ _ h => h) (by rfl) (by assumption) ?_ ?_
            rotate_left
            · (intro wS hSw; (try dsimp only at hSw); go_simp; try with_reducible rfl)
            try simp only [Act.put, List.setIfInBounds_toArray, List.set_cons_zero, List.set_cons_succ]
            refine uTake (i := 3) (some 46) (v := ?_) rfl rfl (by kernel_rfl) (by kernel_rfl) (by kernel_rfl) (by kernel_rfl) (fun _ _ _ h => h) (by rfl) (by assumption) ?_ ?_
            rotate_left
            · (intro wS hSw; (try dsimp only at hSw); go_simp; try with_reducible rfl)
            try simp only [Act.put, List.setIfInBounds_toArray, List.set_cons_zero, List.set_cons_succ]
            refine uTake (i := 4) (some 47) (v := ?_) rfl rfl (by kernel_rfl) (by kernel_rfl) (by kernel_rfl) (by kernel_rfl) (fun _ _ _ h => h) (by rfl) (by assumption) ?_ ?_
            rotate_left
            · (intro wS hSw; (try dsimp only at hSw); go_simp; try with_reducible rfl)
            try simp only [Act.put, List.setIfInBounds_toArray, List.set_cons_zero, List.set_cons_succ]
            refine uTake (i := 5) (some 48) (v := ?_) rfl rfl (by kernel_rfl) (by kernel_rfl) (by kernel_rfl) (by kernel_rfl) (fun _ _ _ h => h) (by rfl) (by assumption) ?_ ?_
            rotate_left
            · (intro wS hSw; (try dsimp only at hSw); go_simp; try with_reducible rfl)
            try simp only [Act.put, List.setIfInBounds_toArray, List.set_cons_zero, List.set_cons_succ]
            refine uTake (i := 6) (some 49) (v := ?_) rfl rfl (by kernel_rfl) (by kernel_rfl) (by kernel_rfl) (by kernel_rfl) (fun _ _ _ h => h) (by rfl) (by assumption) ?_ ?_
            rotate_left
            · (intro wS hSw; (try dsimp only at hSw); go_simp; try with_reducible rfl)
            try simp only [Act.put, List.setIfInBounds_toArray, List.set_cons_zero, List.set_cons_succ]
            refine uTake (i := 7) (some 50) (v := ?_) rfl rfl (by kernel_rfl) (by kernel_rfl) (by kernel_rfl) (by kernel_rfl) (fun _ _ _ h => h) (by rfl) (by assumption) ?_ ?_
            rotate_left
            · (intro wS hSw; (try dsimp only at hSw); go_simp; try with_reducible rfl)
            try simp only [Act.put, List.setIfInBounds_toArray, List.set_cons_zero, List.set_cons_succ]
            refine uTake (i := 8) (some 51) (v := ?_) rfl rfl (by kernel_rfl) (by kernel_rfl) (by kernel_rfl) (by kernel_rfl) (fun _ _ _ h => h) (by rfl) (by assumption) ?_ ?_
            rotate_left
            · (intro wS hSw; (try dsimp only at hSw); go_simp; try with_reducible rfl)
            try simp only [Act.put, List.setIfInBounds_toArray, List.set_cons_zero, List.set_cons_succ]
            refine uTake (i := 9) (some 52) (v := ?_) rfl rfl (by kernel_rfl) (by kernel_rfl) (by kernel_rfl) (by kernel_rfl) (fun _ _ _ h => h) (by rfl) (by assumption) ?_ ?_
            rotate_left
            · (intro wS hSw; (try dsimp only at hSw); go_simp; try with_reducible rfl)
            try simp only [Act.put, List.setIfInBounds_toArray, List.set_cons_zero, List.set_cons_succ]
            refine uTake (i := 10) (some 53) (v := ?_) rfl rfl (by kernel_rfl) (by kernel_rfl) (by kernel_rfl) (by kernel_rfl) (fun _ _ _ h => h) (by rfl) (by assumption) ?_ ?_
            rotate_left
            · (intro wS hSw; (try dsimp only at hSw); go_simp; try with_reducible rfl)
            try simp only [Act.put, List.setIfInBounds_toArray, List.set_cons_zero, List.set_cons_succ]
            refine uTake (i := 11) (some 54) (v := .int .i64 (s3 : Int)) rfl rfl (by kernel_rfl) (by kernel_rfl) (by kernel_rfl) (by kernel_rfl) (fun _ _ _ h => h) (by rfl) (by assumption) ?_ ?_
            · (intro wS hSw; (try dsimp only at hSw); go_simp; have h1 := s3a _ rfl; have h2 := s3b _ rfl; rw [← h1] at h2; rw [wr64, wr64]; exact h2)
            try simp only [Act.put, List.setIfInBounds_toArray, List.set_cons_zero, List.set_cons_succ]
            refine uTake (i := 12) (some 55) (v := ?_) rfl rfl (by kernel_rfl) (by kernel_rfl) (by kernel_rfl) (by kernel_rfl) (fun _ _ _ h => h) (by rfl) (by assumption) ?_ ?_
            rotate_left
            · (intro wS hSw; (try dsimp only at hSw); go_simp; try with_reducible rfl)
            try simp only [Act.put, List.setIfInBounds_toArray, List.set_cons_zero, List.set_cons_succ]
            refine uTake (i := 13) (some 56) (v := .int .i64 ((s3 % q : Nat) : Int)) rfl rfl (by kernel_rfl) (by kernel_rfl) (by kernel_rfl) (by kernel_rfl) (fun _ _ _ h => h) (by rfl) (by assumption) ?_ ?_
            · (intro wS hSw; (try dsimp only at hSw); go_simp; first | rfl | exact Int.tmod_eq_emod_of_nonneg (by omega))
            try simp only [Act.put, List.setIfInBounds_toArray, List.set_cons_zero, List.set_cons_succ]
            refine uTake (i := 14) (some 57) (v := ?_) rfl rfl (by kernel_rfl) (by kernel_rfl) (by kernel_rfl) (by kernel_rfl) (fun _ _ _ h => h) (by rfl) (by assumption) ?_ ?_
            rotate_left
            · (intro wS hSw; (try dsimp only at hSw); go_simp; try with_reducible rfl)
            try simp only [Act.put, List.setIfInBounds_toArray, List.set_cons_zero, List.set_cons_succ]
            refine uReady (rs := [15]) (by kernel_rfl) (by simp) ?_
            refine ReadyU.cons rfl (fun KK hKK => ?_) ReadyU.nil
            go_simp
            refine (refMulB u1 (s3 % q) q _ hu1 s3q HT.out).mono ?_
            rintro e w4 ⟨⟨s4, s4h, rfl⟩, hb⟩
            have E11 : Hid (Env D w [(wr.heap.size, 3, [.int .i64 ((s1 % q : Nat) : Int), .int .i64 1])] [.rw (.slice ta (trimN (mulL q v (trimN [s1 % q, 1]))).length tk) (trimN (mulL q v (trimN [s1 % q, 1]))).length 1 (ncl (trimN (mulL q v (trimN [s1 % q, 1])))), .rw (.slice ma (trimN [s1 % q, 1]).length mk) (trimN [s1 % q, 1]).length 1 (ncl (trimN [s1 % q, 1])), .ce xab (xao + k) (.int .i64 (a[k] : Nat)), .rw (.slice va v.length vk) v.length 1 (ncl v), .ce yab (yao + i) (.int .i64 (b[i] : Nat)), .ce xab (xao + i) (.int .i64 (a[i] : Nat)), .rw (.slice ua u.length uk) u.length 1 (ncl u), .rw (.slice (some ⟨yab, yao, none⟩) b.length yk) b.length 1 (ncl b), .rw (.slice (some ⟨xab, xao, none⟩) a.length xk) a.length 1 (ncl a)] w4) := Lib.hid (E10.out.below hb)
            clear E10 hb
            have s4q : (s4 : Int) < (q : Int) := by rw [s4h.out]; exact Int.ofNat_lt.2 (Nat.mod_lt _ HQ.out)
            (try dsimp only)
            clear hHeld
            refine hKK.out _ _ (⟨(E11.out.fc 5 rfl).2, (E11.out.fc 2 rfl).2⟩) (fun hHeld => ?_)
            clear hKK KK
            try simp only [Act.put, List.setIfInBounds_toArray, List.set_cons_zero, List.set_cons_succ]
            refine uTake (i := 16) (some 10) (v := ?_) rfl rfl (by kernel_rfl) (by kernel_rfl) (by kernel_rfl) (by kernel_rfl) (fun _ _ _ h => h) (by rfl) (by assumption) ?_ ?_
            rotate_left
            · (intro wS hSw; (try dsimp only at hSw); go_simp; try with_reducible rfl)
            try simp only [Act.put, List.setIfInBounds_toArray, List.set_cons_zero, List.set_cons_succ]
            refine uDone (by kernel_rfl) ?_ _
            have HVN : Hid (trimN (mulL q v (trimN [s1 % q, 1])) = oneL q a i (k + 1)) := Lib.hid (by show _ = (if k = i then _ else _); rw [if_neg HKI.out, HV.out, s1E.out, getD_elem hk])
            have EY := Lib.hid (E11.out.drop)
            have EZ := Lib.hid (⟨EY.out.bel, EY.out.box, EY.out.fc 0 rfl, EY.out.fc 4 rfl, EY.out.fc 5 rfl, EY.out.fc 6 rfl, EY.out.fc 7 rfl, EY.out.fc 8 rfl, trivial⟩ : Env D w [] [.rw (.slice ta (trimN (mulL q v (trimN [s1 % q, 1]))).length tk) (trimN (mulL q v (trimN [s1 % q, 1]))).length 1 (ncl (trimN (mulL q v (trimN [s1 % q, 1])))), .ce yab (yao + i) (.int .i64 (b[i] : Nat)), .ce xab (xao + i) (.int .i64 (a[i] : Nat)), .rw (.slice ua u.length uk) u.length 1 (ncl u), .rw (.slice (some ⟨yab, yao, none⟩) b.length yk) b.length 1 (ncl b), .rw (.slice (some ⟨xab, xao, none⟩) a.length xk) a.length 1 (ncl a)] _)
            go_wp2
            go_roundg (a.length - (k + 1))
            case rel => exact ⟨ta, tk, trimN (mulL q v (trimN [s1 % q, 1])), s4, k + 1, rfl, rfl, rfl, EZ, Lib.hid ⟨⟨by omega, rfl⟩, HVN.out, wM_step (s := s3 % q) HKI.out hk (by rw [s3E.out]) (by rw [← HU1.out]; exact s4h.out)⟩⟩
            case measure => exact by omega
        have t8 : decide ((k : Int) < (a.length : Int)) = false := decide_eq_false (by omega)
        have t9 : decide (k < a.length) = false := decide_eq_false (by omega)
        have HK := Lib.hid hy
        clear hy
        have HGD : Hid (a.getD i 0 = a[i]) := Lib.hid (getD_elem hi)
        have HGB : Hid (b.getD i 0 = b[i]) := Lib.hid (getD_elem hib)
        have HGC : Hid (Nat.gcd u1 q = 1) := Lib.hid (by have h := hg.out i hi; rw [HGD.out, ← HK.out] at h; rw [HU1.out]; exact h)
        go_wp2_with fail
        refine (rInvG_c q u1 _ hu1 HT.out HGC.out).mono ?_
        rintro e w1 ⟨⟨r1, r1h, rfl⟩, hb⟩
        have E6 : Hid (Env D w [] [.rw (.slice va v.length vk) v.length 1 (ncl v), .ce yab (yao + i) (.int .i64 (b[i] : Nat)), .ce xab (xao + i) (.int .i64 (a[i] : Nat)), .rw (.slice ua u.length uk) u.length 1 (ncl u), .rw (.slice (some ⟨yab, yao, none⟩) b.length yk) b.length 1 (ncl b), .rw (.slice (some ⟨xab, xao, none⟩) a.length xk) a.length 1 (ncl a)] w1) := Lib.hid (EL.out.below hb)
        clear EL hb
        have r1q : (r1 : Int) < (q : Int) := Int.ofNat_lt.2 r1h.out.1
        have E7 : Hid (Env D w [] [.ce yab (yao + i) (.int .i64 (b[i] : Nat)), .rw (.slice va v.length vk) v.length 1 (ncl v), .ce yab (yao + i) (.int .i64 (b[i] : Nat)), .ce xab (xao + i) (.int .i64 (a[i] : Nat)), .rw (.slice ua u.length uk) u.length 1 (ncl u), .rw (.slice (some ⟨yab, yao, none⟩) b.length yk) b.length 1 (ncl b), .rw (.slice (some ⟨xab, xao, none⟩) a.length xk) a.length 1 (ncl a)] _) := Lib.hid (E6.out.elN 4 rfl rfl (i) hib)
        clear E6
        have o20 := (E7.out.fc 0 rfl).2
        go_wp2_with fail
        refine (refMulB b[i] r1 q _ hyq r1q HT.out).mono ?_
        rintro e w2 ⟨⟨c1, c1h, rfl⟩, hb⟩
        have E8 : Hid (Env D w [] [.ce yab (yao + i) (.int .i64 (b[i] : Nat)), .rw (.slice va v.length vk) v.length 1 (ncl v), .ce yab (yao + i) (.int .i64 (b[i] : Nat)), .ce xab (xao + i) (.int .i64 (a[i] : Nat)), .rw (.slice ua u.length uk) u.length 1 (ncl u), .rw (.slice (some ⟨yab, yao, none⟩) b.length yk) b.length 1 (ncl b), .rw (.slice (some ⟨xab, xao, none⟩) a.length xk) a.length 1 (ncl a)] w2) := Lib.hid (E7.out.below hb)
        clear o20 E7 hb
        have HQ1B : Hid ((∀ c ∈ trimN [c1], c < q) ∧ (trimN [c1]).length ≤ 1) := Lib.hid ⟨trimN_lt (fun c hc => by rw [List.mem_singleton.1 hc, c1h.out]; exact Nat.mod_lt _ HQ.out), trimN_len _⟩
        have E9 : Hid (Env D w [(w2.heap.size, 3, [.int .i64 (c1 : Nat)])] [.ce yab (yao + i) (.int .i64 (b[i] : Nat)), .rw (.slice va v.length vk) v.length 1 (ncl v), .ce yab (yao + i) (.int .i64 (b[i] : Nat)), .ce xab (xao + i) (.int .i64 (a[i] : Nat)), .rw (.slice ua u.length uk) u.length 1 (ncl u), .rw (.slice (some ⟨yab, yao, none⟩) b.length yk) b.length 1 (ncl b), .rw (.slice (some ⟨xab, xao, none⟩) a.length xk) a.length 1 (ncl a)] _) := Lib.hid ((E8.out.push 3 [.int .i64 (c1 : Nat)] (w2.heap.size) (by simp)))
        go_wp2_with fail
        refine (rTrim_c [c1] (Rw.boxP (o := [c1]) (E9.out.bx 0 rfl) (Nat.le_refl _) (by simp)) (by simp)).mono ?_
        rintro e w3 ⟨⟨ma, mk, rfl, mh⟩, hb⟩
        have E10 : Hid (Env D w [(w2.heap.size, 3, [.int .i64 (c1 : Nat)])] [.rw (.slice ma (trimN [c1]).length mk) (trimN [c1]).length 1 (ncl (trimN [c1])), .ce yab (yao + i) (.int .i64 (b[i] : Nat)), .rw (.slice va v.length vk) v.length 1 (ncl v), .ce yab (yao + i) (.int .i64 (b[i] : Nat)), .ce xab (xao + i) (.int .i64 (a[i] : Nat)), .rw (.slice ua u.length uk) u.length 1 (ncl u), .rw (.slice (some ⟨yab, yao, none⟩) b.length yk) b.length 1 (ncl b), .rw (.slice (some ⟨xab, xao, none⟩) a.length xk) a.length 1 (ncl a)] w3) := Lib.hid (E9.out.got (E9.out.below hb) (.rw (.slice ma (trimN [c1]).length mk) (trimN [c1]).length 1 (ncl (trimN [c1]))) (Lib.hid (Rw.ge mh.out)).out)
        clear E8 E9 hb
        go_wp2_with fail
        refine (rMul_c q v (trimN [c1]) (Rw.tr (E10.out.fc 2 rfl)) (Rw.tr (E10.out.fc 0 rfl)) HQ.out HT.out HVL.out.2 HQ1B.out.1 (by have := HVL.out.1; omega) (by have := HQ1B.out.2; omega)).mono ?_
        rintro e w4 ⟨⟨ta, tk, rfl, th⟩, hb⟩
        have E11 : Hid (Env D w [(w2.heap.size, 3, [.int .i64 (c1 : Nat)])] [.rw (.slice ta (trimN (mulL q v (trimN [c1]))).length tk) (trimN (mulL q v (trimN [c1]))).length 1 (ncl (trimN (mulL q v (trimN [c1])))), .rw (.slice ma (trimN [c1]).length mk) (trimN [c1]).length 1 (ncl (trimN [c1])), .ce yab (yao + i) (.int .i64 (b[i] : Nat)), .rw (.slice va v.length vk) v.length 1 (ncl v), .ce yab (yao + i) (.int .i64 (b[i] : Nat)), .ce xab (xao + i) (.int .i64 (a[i] : Nat)), .rw (.slice ua u.length uk) u.length 1 (ncl u), .rw (.slice (some ⟨yab, yao, none⟩) b.length yk) b.length 1 (ncl b), .rw (.slice (some ⟨xab, xao, none⟩) a.length xk) a.length 1 (ncl a)] w4) := Lib.hid (E10.out.got (E10.out.below hb) (.rw (.slice ta (trimN (mulL q v (trimN [c1]))).length tk) (trimN (mulL q v (trimN [c1]))).length 1 (ncl (trimN (mulL q v (trimN [c1]))))) (Lib.hid (Rw.ge th.out)).out)
        clear E10 hb
        go_wp2_with fail
        refine (rAdd_c q u (trimN (mulL q v (trimN [c1]))) (Rw.tr (E11.out.fc 6 rfl)) (Rw.tr (E11.out.fc 0 rfl)) HQ.out HT.out HUL.out.2 (trimN_lt (mulL_lt HQ.out _ _)) (by have := HUL.out.1; omega) (Nat.le_trans (trimN_len _) (Nat.le_trans (mulL_le _ _ _) (by have := HVL.out.1; have := HQ1B.out.2; omega)))).mono ?_
        rintro e w5 ⟨⟨za, zk, rfl, zh⟩, hb⟩
        have E12 : Hid (Env D w [(w2.heap.size, 3, [.int .i64 (c1 : Nat)])] [.rw (.slice za (trimN (addL q u (trimN (mulL q v (trimN [c1]))))).length zk) (trimN (addL q u (trimN (mulL q v (trimN [c1]))))).length 1 (ncl (trimN (addL q u (trimN (mulL q v (trimN [c1])))))), .rw (.slice ta (trimN (mulL q v (trimN [c1]))).length tk) (trimN (mulL q v (trimN [c1]))).length 1 (ncl (trimN (mulL q v (trimN [c1])))), .rw (.slice ma (trimN [c1]).length mk) (trimN [c1]).length 1 (ncl (trimN [c1])), .ce yab (yao + i) (.int .i64 (b[i] : Nat)), .rw (.slice va v.length vk) v.length 1 (ncl v), .ce yab (yao + i) (.int .i64 (b[i] : Nat)), .ce xab (xao + i) (.int .i64 (a[i] : Nat)), .rw (.slice ua u.length uk) u.length 1 (ncl u), .rw (.slice (some ⟨yab, yao, none⟩) b.length yk) b.length 1 (ncl b), .rw (.slice (some ⟨xab, xao, none⟩) a.length xk) a.length 1 (ncl a)] w5) := Lib.hid (E11.out.got (E11.out.below hb) (.rw (.slice za (trimN (addL q u (trimN (mulL q v (trimN [c1]))))).length zk) (trimN (addL q u (trimN (mulL q v (trimN [c1]))))).length 1 (ncl (trimN (addL q u (trimN (mulL q v (trimN [c1]))))))) (Lib.hid (Rw.ge zh.out)).out)
        clear E11 hb
        have HRN : Hid (RIt q a b (i + 1) (trimN (addL q u (trimN (mulL q v (trimN [c1])))))) := Lib.hid ⟨u, r1, HS.out, r1h.out.1, by rw [HGD.out, ← HK.out, ← HU1.out]; exact r1h.out.2, by rw [c1h.out, HGB.out, HV.out, HK.out]⟩
        have EY := Lib.hid (E12.out.drop)
        have EZ := Lib.hid (⟨EY.out.bel, EY.out.box, EY.out.fc 0 rfl, EY.out.fc 8 rfl, EY.out.fc 9 rfl, trivial⟩ : Env D w [] [.rw (.slice za (trimN (addL q u (trimN (mulL q v (trimN [c1]))))).length zk) (trimN (addL q u (trimN (mulL q v (trimN [c1]))))).length 1 (ncl (trimN (addL q u (trimN (mulL q v (trimN [c1])))))), .rw (.slice (some ⟨yab, yao, none⟩) b.length yk) b.length 1 (ncl b), .rw (.slice (some ⟨xab, xao, none⟩) a.length xk) a.length 1 (ncl a)] _)
        go_wp2
        go_roundg (a.length - (i + 1))
        case rel => exact ⟨za, zk, trimN (addL q u (trimN (mulL q v (trimN [c1])))), i + 1, rfl, rfl, EZ, Lib.hid ⟨⟨by omega, rfl⟩, HRN.out⟩⟩
        case measure => exact by omega
    have t6 : decide ((i : Int) < (a.length : Int)) = false := decide_eq_false (by omega)
    have t7 : decide (i < a.length) = false := decide_eq_false (by omega)
    have HD : Hid (RIt q a b a.length u) := Lib.hid (by rw [← hy]; exact HS.out)
    have HY := Lib.hid hy
    clear hy
    have hres := Lib.hid (Rw.tr (EL.out.fc 0 rfl))
    have hbel := Lib.hid EL.out.bel
    go_wp2
    go_ret
    exact ⟨⟨u, HD, ua, uk, rfl, hres⟩, hbel.out⟩
end Go.Proofs.YteipbcpnnojclaaDoor

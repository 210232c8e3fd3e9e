/- poly: sum, Add. -/
import Derived.Test.YteipbcpnnojclaaDoorPolG
namespace Go.Proofs.YteipbcpnnojclaaDoor
open Go.RowKit DivMath WordMath
set_option linter.unusedVariables false
set_option linter.unusedSimpArgs false
theorem ncl_app_get (o : List Nat) (rs : List Value) (i : Nat) (h : i < o.length) : (ncl o ++ rs)[i]? = some (.int .i64 (o[i] : Nat)) := by
  rw [List.getElem?_append_left (by rw [ncl_len]; omega)]; exact ncl_get o i h
theorem ncl_app_set (o : List Nat) (rs : List Value) (i v : Nat) (h : i < o.length) : (ncl o ++ rs).set i (.int .i64 (v : Nat)) = ncl (o.set i v) ++ rs := by
  rw [List.set_append_left _ _ (by rw [ncl_len]; omega), ncl_set]
/-- a box, for a callee that only reads -/
theorem Rw.boxN {W : World} {B g : Nat} {T : TypeId} {o : List Nat} {rs : List Value} {cap : Nat} (hB : Box B g T (ncl o ++ rs) W) (h1 : o.length ≤ cap) (h2 : cap ≤ 9223372036854775807) : Rw W (fun _ => True) (.slice (some ⟨g, 0, none⟩) o.length cap) o.length 1 (ncl o) :=
  ⟨some ⟨g, 0, none⟩, cap, rfl, h1, h2, ncl_len o, ncl_one o, fun _ => ⟨g, 0, rfl, ⟨hB.lt, trivial⟩, fun i u hu => by
    rw [Nat.zero_add]
    refine hB.cell i ?_
    have hi : i < (ncl o).length := (List.getElem?_eq_some_iff.1 hu).1
    rw [List.getElem?_append_left hi]; exact hu⟩⟩
theorem cloneBox_c {D : Nat → Prop} {v : Value} {l : List Nat} {w : World} (h : Fct.at w D (.rw v l.length 1 (ncl l))) (hl : l.length ≤ 1000000) (h0 : 0 < l.length) :
    Calls Tryd.prog 39 #[v] w fun e w' => (∃ g cap rs, e = .returned (.slice (some ⟨g, 0, none⟩) l.length cap) ∧ Hid (Box w.heap.size g 3 (ncl l ++ rs) w') ∧ Hid (l.length ≤ cap ∧ cap ≤ 9223372036854775807)) ∧ Below w.heap.size w w' :=
  (cloneRInt h hl).mono fun e w' ⟨⟨v', h1, h2⟩, hb⟩ => by
    rcases h2.2 with ⟨rfl, hz⟩ | ⟨g, cap, cur, rfl, hge, hg, hn, hm, hs, ht⟩
    · omega
    · refine ⟨⟨g, cap, cur.toList.drop l.length, h1, Lib.hid ⟨hge, ?_⟩, Lib.hid ⟨hn, by unfold maxLen at hm; omega⟩⟩, hb⟩
      have e1 : ncl l ++ cur.toList.drop l.length = cur.toList := by
        rw [← ht]; simp
      rw [e1, Array.toArray_toList]; exact hg
/-- the sums of two rows of residues -/
def addL (q : Nat) (a b : List Nat) : List Nat := (List.range (max a.length b.length)).map fun i => (a.getD i 0 + b.getD i 0) % q
theorem addL_len (q : Nat) (a b : List Nat) : (addL q a b).length = max a.length b.length := by simp [addL]
theorem addL_comm (q : Nat) (a b : List Nat) : addL q a b = addL q b a := by
  unfold addL; rw [Nat.max_comm]; congr 1; funext i; rw [Nat.add_comm]
theorem addL_lt {q : Nat} (hq : 0 < q) (a b : List Nat) : ∀ c ∈ addL q a b, c < q := fun c hc => by
  obtain ⟨i, _, rfl⟩ := List.mem_map.1 hc; exact Nat.mod_lt _ hq
/-- behind k rounds -/
def SumTo (q : Nat) (a b o : List Nat) (k : Nat) : Prop := o.length = a.length ∧ ∀ i (h : i < o.length), o[i] = if i < k then (a.getD i 0 + b.getD i 0) % q else a.getD i 0
theorem SumTo.zero (q : Nat) (a b : List Nat) : SumTo q a b a 0 := ⟨rfl, fun i h => by simp [List.getElem?_eq_getElem h]⟩
theorem SumTo.step {q : Nat} {a b o : List Nat} {k : Nat} (h : SumTo q a b o k) (hk : k < b.length) (hab : b.length ≤ a.length) (ho : k < o.length) : SumTo q a b (o.set k ((o[k] + b[k]) % q)) (k + 1) := by
  refine ⟨by simp [h.1], fun i hi => ?_⟩
  have hi' : i < o.length := by simpa using hi
  rw [List.getElem_set]
  by_cases e : k = i
  · subst e
    rw [if_pos rfl, if_pos (by omega), h.2 k ho, if_neg (by omega)]
    simp [List.getElem?_eq_getElem hk]
  · rw [if_neg e, h.2 i hi']
    by_cases h1 : i < k
    · rw [if_pos h1, if_pos (by omega)]
    · rw [if_neg h1, if_neg (by omega)]
theorem SumTo.done {q : Nat} {a b o : List Nat} (h : SumTo q a b o b.length) (hab : b.length ≤ a.length) (ha : ∀ c ∈ a, c < q) : o = addL q a b := by
  apply List.ext_getElem
  · rw [h.1, addL_len]; omega
  · intro i h1 h2
    rw [h.2 i h1]
    simp only [addL, List.getElem_map, List.getElem_range]
    split
    · rfl
    · have hia : i < a.length := by rw [← h.1]; exact h1
      have := ha a[i] (List.getElem_mem hia)
      simp [List.getElem?_eq_getElem hia, List.getElem?_eq_none (show b.length ≤ i by omega)]
      exact (Nat.mod_eq_of_lt this).symm
theorem SumTo.bound {q : Nat} {a b o : List Nat} {k : Nat} (h : SumTo q a b o k) (hq : 0 < q) (ha : ∀ c ∈ a, c < q) : ∀ i (hi : i < o.length), o[i] < q := fun i hi => by
  rw [h.2 i hi]
  split
  · exact Nat.mod_lt _ hq
  · have hia : i < a.length := by rw [← h.1]; exact hi
    have := ha a[i] (List.getElem_mem hia)
    simpa [List.getElem?_eq_getElem hia] using this
set_option maxRecDepth 100000 in
set_option maxHeartbeats 2000000 in
theorem sum_ge {D : Nat → Prop} (q : Nat) (a b : List Nat) {xa ya : Option Addr} {xk yk : Nat} {w : World} (hx : Fct.at w D (.rw (.slice xa a.length xk) a.length 1 (ncl a))) (hy : Fct.at w D (.rw (.slice ya b.length yk) b.length 1 (ncl b))) (hq : 0 < q) (hqT : (q : Int) < Top) (ha0 : ∀ c ∈ a, c < q) (hb0 : ∀ c ∈ b, c < q) (hla : a.length ≤ 1000) (hlb : b.length ≤ 1000) (hab : b.length ≤ a.length) (hz : 0 < a.length) :
    Calls Tryd.prog 62 #[.int .i64 (q : Nat), .slice xa a.length xk, .slice ya b.length yk] w fun e w' => RetI (fun b => w.heap.size ≤ b) (trimN (addL q a b)) e w' ∧ Below w.heap.size w w' := by
  have E0 : Hid (Env D w [] [.rw (.slice ya b.length yk) b.length 1 (ncl b), .rw (.slice xa a.length xk) a.length 1 (ncl a)] w) := Lib.hid (((Env.start D w).arg (.rw (.slice xa a.length xk) a.length 1 (ncl a)) hx).arg (.rw (.slice ya b.length yk) b.length 1 (ncl b)) hy)
  clear hx hy
  go_enter Tryd.func62, Tryd.ntmps62
  have ha := Lib.hid ha0
  have hb := Lib.hid hb0
  clear ha0 hb0
  have HT := Lib.hid hqT
  have hq9 : (q : Int) ≤ 2305843009213693951 := by unfold Top at hqT; omega
  clear hqT
  have hq0 : ¬ (q = 0) := by omega
  have hqz : ((q : Int) == 0) = false := by simp; omega
  have d0 : decide ((a.length : Int) < (b.length : Int)) = false := decide_eq_false (by omega)
  have d0n : decide (a.length < b.length) = false := decide_eq_false (by omega)
  go_wp2_with fail
  refine (cloneBox_c (E0.out.fc 1 rfl) (by omega) hz).mono ?_
  rintro e w1 ⟨⟨og, oc, or, rfl, ob, ol⟩, hb⟩
  have E1 : Hid (Env D w [(og, 3, (ncl (a) ++ or))] [.rw (.slice ya b.length yk) b.length 1 (ncl b), .rw (.slice xa a.length xk) a.length 1 (ncl a)] w1) := Lib.hid (E0.out.gotBox hb ob.out)
  clear E0 hb ob
  obtain ⟨hoc, hoc9⟩ := ol.out
  clear ol
  go_wp2_with fail
  go_wp2_with fail
  go_loopg [21] (b.length) (fun gk s21 wr => ∃ (k : Nat) (o : List Nat), s21 = .int .i64 (k : Int) ∧ Hid (Env D w [(og, 3, (ncl o ++ or))] [.rw (.slice ya b.length yk) b.length 1 (ncl b), .rw (.slice xa a.length xk) a.length 1 (ncl a)] wr) ∧ Hid ((k ≤ b.length ∧ gk = b.length - k) ∧ SumTo q a b o k))
  case atStart => exact ⟨0, a, rfl, Lib.hid E1.out, Lib.hid ⟨⟨Nat.zero_le _, rfl⟩, SumTo.zero q a b⟩⟩
  case round =>
    clear E1
    obtain ⟨k, o, rfl, EL, HA⟩ := hrel
    obtain ⟨⟨a1, a2⟩, a3⟩ := HA.out
    have HS := Lib.hid a3
    clear a3 HA
    have hol : o.length = a.length := HS.out.1
    by_cases hy : k = b.length
    rotate_left
    · have hk : k < b.length := by omega
      have t6 : decide ((k : Int) < (b.length : Int)) = true := decide_eq_true (by omega)
      have t7 : decide (k < b.length) = true := decide_eq_true hk
      clear hy
      have hko : k < o.length := by omega
      have hob := HS.out.bound hq ha.out k hko
      have hbb := hb.out b[k] (List.getElem_mem hk)
      have ew : wrap64 (((o[k] : Nat) : Int) + ((b[k] : Nat) : Int)) = ((o[k] + b[k] : Nat) : Int) := by rw [IntWalk.wrap64_in _ (by omega)]; rfl
      have HNX := Lib.hid (HS.out.step hk hab hko)
      have hlen2 : (o.set k ((o[k] + b[k]) % q)).length = o.length := by simp
      have HOB := Lib.hid hob
      have HBB := Lib.hid hbb
      have oq : ((o[k] : Nat) : Int) < (q : Int) := Int.ofNat_lt.2 hob
      have bq : ((b[k] : Nat) : Int) < (q : Int) := Int.ofNat_lt.2 hbb
      clear hob hbb
      obtain ⟨yab, yao, rfl⟩ := Rw.addr (EL.out.fc 0 rfl) (by omega)
      have E2 : Hid (Env D w [(og, 3, (ncl o ++ or))] [.ce yab (yao + k) (.int .i64 (b[k] : Nat)), .rw (.slice (some ⟨yab, yao, none⟩) b.length yk) b.length 1 (ncl b), .rw (.slice xa a.length xk) a.length 1 (ncl a)] _) := Lib.hid (EL.out.elN 0 rfl rfl (k) hk)
      clear EL
      have u0 := (E2.out.fc 0 rfl).2
      have bg := E2.out.bx 0 rfl
      have y1 := bg.cell (k) (ncl_app_get o or k hko)
      have y2 := bg.frozen (k)
      clear bg
      have E3 : Hid (Env D w [(og, 3, (((ncl o ++ or)).set (k) (.int .i64 ((o[k] + b[k]) % q : Nat))))] [.ce yab (yao + k) (.int .i64 (b[k] : Nat)), .rw (.slice (some ⟨yab, yao, none⟩) b.length yk) b.length 1 (ncl b), .rw (.slice xa a.length xk) a.length 1 (ncl a)] _) := Lib.hid ((E2.out.set 0 k (.int .i64 ((o[k] + b[k]) % q : Nat)) rfl))
      have E4 : Hid (Env D w [(og, 3, (ncl (o.set k ((o[k] + b[k]) % q)) ++ or))] [.ce yab (yao + k) (.int .i64 (b[k] : Nat)), .rw (.slice (some ⟨yab, yao, none⟩) b.length yk) b.length 1 (ncl b), .rw (.slice xa a.length xk) a.length 1 (ncl a)] _) := Lib.hid (by have h := E3.out; rw [ncl_app_set o or k _ hko] at h; exact h)
      have EZ := Lib.hid (E4.out.forget)
      go_wp2
      go_roundg (b.length - (k + 1))
      case rel => exact ⟨k + 1, o.set k ((o[k] + b[k]) % q), rfl, EZ, Lib.hid ⟨⟨by omega, rfl⟩, HNX.out⟩⟩
      case measure => exact by omega
    have t6 : decide ((k : Int) < (b.length : Int)) = false := decide_eq_false (by omega)
    have t7 : decide (k < b.length) = false := decide_eq_false (by omega)
    have HD := Lib.hid (SumTo.done (by rw [← hy]; exact HS.out) (by omega) ha.out)
    have HY := Lib.hid hy
    clear hy
    have tc := trim_c (xa := some ⟨og, 0, none⟩) (xk := oc) (w := wr) o (Rw.boxN (EL.out.bx 0 rfl) (by omega) hoc9) (by omega)
    rw [hol] at tc
    have TC := Lib.hid tc
    have HOL := Lib.hid hol
    clear tc hol
    have hsz := Lib.hid EL.out.bel.size
    go_wp2_with fail
    refine (TC.out).mono ?_
    rintro e w2 ⟨⟨za, zk, rfl, zh⟩, hb⟩
    have E2 : Hid (Env D w [(og, 3, (ncl o ++ or))] [.rw (.slice ya b.length yk) b.length 1 (ncl b), .rw (.slice xa a.length xk) a.length 1 (ncl a)] w2) := Lib.hid (EL.out.below hb)
    clear EL hb
    have hbel := Lib.hid E2.out.bel
    go_wp2
    go_ret
    rw [← HD.out]
    exact ⟨⟨za, zk, rfl, Lib.hid (Rw.from zh.out hsz.out)⟩, hbel.out⟩
set_option maxRecDepth 100000 in
set_option maxHeartbeats 2000000 in
theorem sum_lt {D : Nat → Prop} (q : Nat) (a b : List Nat) {xa ya : Option Addr} {xk yk : Nat} {w : World} (hx : Fct.at w D (.rw (.slice xa a.length xk) a.length 1 (ncl a))) (hy : Fct.at w D (.rw (.slice ya b.length yk) b.length 1 (ncl b))) (hq : 0 < q) (hqT : (q : Int) < Top) (ha0 : ∀ c ∈ a, c < q) (hb0 : ∀ c ∈ b, c < q) (hla : a.length ≤ 1000) (hlb : b.length ≤ 1000) (hab : b.length < a.length) (hz : 0 < a.length) :
    Calls Tryd.prog 62 #[.int .i64 (q : Nat), .slice ya b.length yk, .slice xa a.length xk] w fun e w' => RetI (fun b => w.heap.size ≤ b) (trimN (addL q a b)) e w' ∧ Below w.heap.size w w' := by
  have E0 : Hid (Env D w [] [.rw (.slice ya b.length yk) b.length 1 (ncl b), .rw (.slice xa a.length xk) a.length 1 (ncl a)] w) := Lib.hid (((Env.start D w).arg (.rw (.slice xa a.length xk) a.length 1 (ncl a)) hx).arg (.rw (.slice ya b.length yk) b.length 1 (ncl b)) hy)
  clear hx hy
  go_enter Tryd.func62, Tryd.ntmps62
  have ha := Lib.hid ha0
  have hb := Lib.hid hb0
  clear ha0 hb0
  have HT := Lib.hid hqT
  have hq9 : (q : Int) ≤ 2305843009213693951 := by unfold Top at hqT; omega
  clear hqT
  have hq0 : ¬ (q = 0) := by omega
  have hqz : ((q : Int) == 0) = false := by simp; omega
  have d0 : decide ((b.length : Int) < (a.length : Int)) = true := decide_eq_true (by omega)
  have d0n : decide (b.length < a.length) = true := decide_eq_true (by omega)
  go_wp2_with fail
  refine (cloneBox_c (E0.out.fc 1 rfl) (by omega) hz).mono ?_
  rintro e w1 ⟨⟨og, oc, or, rfl, ob, ol⟩, hb⟩
  have E1 : Hid (Env D w [(og, 3, (ncl (a) ++ or))] [.rw (.slice ya b.length yk) b.length 1 (ncl b), .rw (.slice xa a.length xk) a.length 1 (ncl a)] w1) := Lib.hid (E0.out.gotBox hb ob.out)
  clear E0 hb ob
  obtain ⟨hoc, hoc9⟩ := ol.out
  clear ol
  go_wp2_with fail
  go_wp2_with fail
  go_loopg [21] (b.length) (fun gk s21 wr => ∃ (k : Nat) (o : List Nat), s21 = .int .i64 (k : Int) ∧ Hid (Env D w [(og, 3, (ncl o ++ or))] [.rw (.slice ya b.length yk) b.length 1 (ncl b), .rw (.slice xa a.length xk) a.length 1 (ncl a)] wr) ∧ Hid ((k ≤ b.length ∧ gk = b.length - k) ∧ SumTo q a b o k))
  case atStart => exact ⟨0, a, rfl, Lib.hid E1.out, Lib.hid ⟨⟨Nat.zero_le _, rfl⟩, SumTo.zero q a b⟩⟩
  case round =>
    clear E1
    obtain ⟨k, o, rfl, EL, HA⟩ := hrel
    obtain ⟨⟨a1, a2⟩, a3⟩ := HA.out
    have HS := Lib.hid a3
    clear a3 HA
    have hol : o.length = a.length := HS.out.1
    by_cases hy : k = b.length
    rotate_left
    · have hk : k < b.length := by omega
      have t6 : decide ((k : Int) < (b.length : Int)) = true := decide_eq_true (by omega)
      have t7 : decide (k < b.length) = true := decide_eq_true hk
      clear hy
      have hko : k < o.length := by omega
      have hob := HS.out.bound hq ha.out k hko
      have hbb := hb.out b[k] (List.getElem_mem hk)
      have ew : wrap64 (((o[k] : Nat) : Int) + ((b[k] : Nat) : Int)) = ((o[k] + b[k] : Nat) : Int) := by rw [IntWalk.wrap64_in _ (by omega)]; rfl
      have HNX := Lib.hid (HS.out.step hk (Nat.le_of_lt hab) hko)
      have hlen2 : (o.set k ((o[k] + b[k]) % q)).length = o.length := by simp
      have HOB := Lib.hid hob
      have HBB := Lib.hid hbb
      have oq : ((o[k] : Nat) : Int) < (q : Int) := Int.ofNat_lt.2 hob
      have bq : ((b[k] : Nat) : Int) < (q : Int) := Int.ofNat_lt.2 hbb
      clear hob hbb
      obtain ⟨yab, yao, rfl⟩ := Rw.addr (EL.out.fc 0 rfl) (by omega)
      have E2 : Hid (Env D w [(og, 3, (ncl o ++ or))] [.ce yab (yao + k) (.int .i64 (b[k] : Nat)), .rw (.slice (some ⟨yab, yao, none⟩) b.length yk) b.length 1 (ncl b), .rw (.slice xa a.length xk) a.length 1 (ncl a)] _) := Lib.hid (EL.out.elN 0 rfl rfl (k) hk)
      clear EL
      have u0 := (E2.out.fc 0 rfl).2
      have bg := E2.out.bx 0 rfl
      have y1 := bg.cell (k) (ncl_app_get o or k hko)
      have y2 := bg.frozen (k)
      clear bg
      have E3 : Hid (Env D w [(og, 3, (((ncl o ++ or)).set (k) (.int .i64 ((o[k] + b[k]) % q : Nat))))] [.ce yab (yao + k) (.int .i64 (b[k] : Nat)), .rw (.slice (some ⟨yab, yao, none⟩) b.length yk) b.length 1 (ncl b), .rw (.slice xa a.length xk) a.length 1 (ncl a)] _) := Lib.hid ((E2.out.set 0 k (.int .i64 ((o[k] + b[k]) % q : Nat)) rfl))
      have E4 : Hid (Env D w [(og, 3, (ncl (o.set k ((o[k] + b[k]) % q)) ++ or))] [.ce yab (yao + k) (.int .i64 (b[k] : Nat)), .rw (.slice (some ⟨yab, yao, none⟩) b.length yk) b.length 1 (ncl b), .rw (.slice xa a.length xk) a.length 1 (ncl a)] _) := Lib.hid (by have h := E3.out; rw [ncl_app_set o or k _ hko] at h; exact h)
      have EZ := Lib.hid (E4.out.forget)
      go_wp2
      go_roundg (b.length - (k + 1))
      case rel => exact ⟨k + 1, o.set k ((o[k] + b[k]) % q), rfl, EZ, Lib.hid ⟨⟨by omega, rfl⟩, HNX.out⟩⟩
      case measure => exact by omega
    have t6 : decide ((k : Int) < (b.length : Int)) = false := decide_eq_false (by omega)
    have t7 : decide (k < b.length) = false := decide_eq_false (by omega)
    have HD := Lib.hid (SumTo.done (by rw [← hy]; exact HS.out) (by omega) ha.out)
    have HY := Lib.hid hy
    clear hy
    have tc := trim_c (xa := some ⟨og, 0, none⟩) (xk := oc) (w := wr) o (Rw.boxN (EL.out.bx 0 rfl) (by omega) hoc9) (by omega)
    rw [hol] at tc
    have TC := Lib.hid tc
    have HOL := Lib.hid hol
    clear tc hol
    have hsz := Lib.hid EL.out.bel.size
    go_wp2_with fail
    refine (TC.out).mono ?_
    rintro e w2 ⟨⟨za, zk, rfl, zh⟩, hb⟩
    have E2 : Hid (Env D w [(og, 3, (ncl o ++ or))] [.rw (.slice ya b.length yk) b.length 1 (ncl b), .rw (.slice xa a.length xk) a.length 1 (ncl a)] w2) := Lib.hid (EL.out.below hb)
    clear EL hb
    have hbel := Lib.hid E2.out.bel
    go_wp2
    go_ret
    rw [← HD.out]
    exact ⟨⟨za, zk, rfl, Lib.hid (Rw.from zh.out hsz.out)⟩, hbel.out⟩
set_option maxRecDepth 100000 in
set_option maxHeartbeats 2000000 in
theorem sum_zero {D : Nat → Prop} (q : Nat) (a b : List Nat) {xa ya : Option Addr} {xk yk : Nat} {w : World} (hx : Fct.at w D (.rw (.slice xa a.length xk) a.length 1 (ncl a))) (hy : Fct.at w D (.rw (.slice ya b.length yk) b.length 1 (ncl b))) (hq : 0 < q) (hqT : (q : Int) < Top) (ha0 : ∀ c ∈ a, c < q) (hb0 : ∀ c ∈ b, c < q) (hla : a.length ≤ 1000) (hlb : b.length ≤ 1000) (hab : b.length ≤ a.length) (hz : a.length = 0) :
    Calls Tryd.prog 62 #[.int .i64 (q : Nat), .slice xa a.length xk, .slice ya b.length yk] w fun e w' => RetI (fun b => w.heap.size ≤ b) (trimN (addL q a b)) e w' ∧ Below w.heap.size w w' := by
  have E0 : Hid (Env D w [] [.rw (.slice ya b.length yk) b.length 1 (ncl b), .rw (.slice xa a.length xk) a.length 1 (ncl a)] w) := Lib.hid (((Env.start D w).arg (.rw (.slice xa a.length xk) a.length 1 (ncl a)) hx).arg (.rw (.slice ya b.length yk) b.length 1 (ncl b)) hy)
  clear hx hy
  go_enter Tryd.func62, Tryd.ntmps62
  have ha := Lib.hid ha0
  have hb := Lib.hid hb0
  clear ha0 hb0
  have HT := Lib.hid hqT
  have hq9 : (q : Int) ≤ 2305843009213693951 := by unfold Top at hqT; omega
  clear hqT
  have hq0 : ¬ (q = 0) := by omega
  have hqz : ((q : Int) == 0) = false := by simp; omega
  have d0 : decide ((a.length : Int) < (b.length : Int)) = false := decide_eq_false (by omega)
  have d0n : decide (a.length < b.length) = false := decide_eq_false (by omega)
  obtain rfl := List.length_eq_zero_iff.1 hz
  obtain rfl : b = [] := List.length_eq_zero_iff.1 (by simp at hab; simpa using hab)
  go_wp2_with fail
  refine (cloneN_c (l := []) (E0.out.fc 1 rfl) (by simp)).mono ?_
  rintro e w1 ⟨⟨ca, ck, rfl, ch⟩, hb⟩
  have E1 : Hid (Env D w [] [.rw (.slice ca ([]).length ck) ([]).length 1 (ncl ([])), .rw (.slice ya [].length yk) [].length 1 (ncl []), .rw (.slice xa [].length xk) [].length 1 (ncl [])] w1) := Lib.hid (E0.out.got (E0.out.below hb) (.rw (.slice ca ([]).length ck) ([]).length 1 (ncl ([]))) (Lib.hid (Rw.ge ch.out)).out)
  clear E0 hb
  go_wp2_with fail
  go_loopg [21] (0) (fun gk s21 wr => ∃ (u : Unit), s21 = .int .i64 0 ∧ Hid (Env D w [] [.rw (.slice ca ([]).length ck) ([]).length 1 (ncl ([])), .rw (.slice ya [].length yk) [].length 1 (ncl []), .rw (.slice xa [].length xk) [].length 1 (ncl [])] wr) ∧ Hid (gk = 0))
  case atStart => exact ⟨(), rfl, Lib.hid E1.out, Lib.hid rfl⟩
  case round =>
    clear E1
    obtain ⟨u, rfl, EL, HA⟩ := hrel
    have t6 : decide ((0 : Int) < ((([] : List Nat).length : Nat) : Int)) = false := rfl
    have hsz := Lib.hid EL.out.bel.size
    go_wp2_with fail
    refine (trim_c [] (EL.out.fc 0 rfl) (by simp)).mono ?_
    rintro e w2 ⟨⟨za, zk, rfl, zh⟩, hb⟩
    have E2 : Hid (Env D w [] [.rw (.slice ca ([]).length ck) ([]).length 1 (ncl ([])), .rw (.slice ya [].length yk) [].length 1 (ncl []), .rw (.slice xa [].length xk) [].length 1 (ncl [])] w2) := Lib.hid (EL.out.below hb)
    clear EL hb
    have hbel := Lib.hid E2.out.bel
    go_wp2
    go_ret
    exact ⟨⟨za, zk, rfl, Lib.hid (Rw.from zh.out hsz.out)⟩, hbel.out⟩
theorem sum_c {D : Nat → Prop} (q : Nat) (a b : List Nat) {xa ya : Option Addr} {xk yk : Nat} {w : World} (hx : Fct.at w D (.rw (.slice xa a.length xk) a.length 1 (ncl a))) (hy : Fct.at w D (.rw (.slice ya b.length yk) b.length 1 (ncl b))) (hq : 0 < q) (hqT : (q : Int) < Top) (ha : ∀ c ∈ a, c < q) (hb : ∀ c ∈ b, c < q) (hla : a.length ≤ 1000) (hlb : b.length ≤ 1000) :
    Calls Tryd.prog 62 #[.int .i64 (q : Nat), .slice xa a.length xk, .slice ya b.length yk] w fun e w' => RetI (fun b => w.heap.size ≤ b) (trimN (addL q a b)) e w' ∧ Below w.heap.size w w' := by
  by_cases h : a.length < b.length
  · rw [addL_comm]; exact sum_lt q b a hy hx hq hqT hb ha hlb hla h (by omega)
  · by_cases h0 : a.length = 0
    · exact sum_zero q a b hx hy hq hqT ha hb hla hlb (by omega) h0
    · exact sum_ge q a b hx hy hq hqT ha hb hla hlb (by omega) (by omega)
set_option maxRecDepth 100000 in
set_option maxHeartbeats 1000000 in
theorem PAdd_no {D : Nat → Prop} (q : Int) (a b : List Int) {xa ya : Option Addr} {xk yk : Nat} {w : World} (hx : Fct.at w D (.rw (.slice xa a.length xk) a.length 1 (icl a))) (hy : Fct.at w D (.rw (.slice ya b.length yk) b.length 1 (icl b))) (hl0 : Laid w) (hn : -9223372036854775808 ≤ q ∧ q ≤ 9223372036854775807) (hv0 : validB q [a, b] = false) :
    Calls Tryd.prog 30 #[.int .i64 q, .slice xa a.length xk, .slice ya b.length yk] w fun e w' => e = .returned (.tuple #[.slice none 0 0, .int .i64 1]) ∧ Below w.heap.size w w' := by
  have E0 : Hid (Env D w [] [.rw (.slice ya b.length yk) b.length 1 (icl b), .rw (.slice xa a.length xk) a.length 1 (icl a)] w) := Lib.hid (((Env.start D w).arg (.rw (.slice xa a.length xk) a.length 1 (icl a)) hx).arg (.rw (.slice ya b.length yk) b.length 1 (icl b)) hy)
  clear hx hy
  go_enter Tryd.func30, Tryd.ntmps30
  have hl := Lib.hid hl0
  have hv := Lib.hid hv0
  clear hl0 hv0
  have E1 : Hid (Env D w [(w.heap.size, 22, [.slice xa a.length xk, .slice ya b.length yk])] [.rw (.slice ya b.length yk) b.length 1 (icl b), .rw (.slice xa a.length xk) a.length 1 (icl a)] _) := Lib.hid ((E0.out.push 22 [.slice xa a.length xk, .slice ya b.length yk] (w.heap.size) (by simp)))
  go_wp2_with fail
  refine (valid_c q [a, b] (Mx.box2 (E1.out.bx 0 rfl) (E1.out.fc 1 rfl) (E1.out.fc 0 rfl)) (hl.out.below E1.out.bel) hn hv.out (by simp)).mono ?_
  rintro e w1 ⟨rfl, hb⟩
  have E2 : Hid (Env D w [(w.heap.size, 22, [.slice xa a.length xk, .slice ya b.length yk])] [.rw (.slice ya b.length yk) b.length 1 (icl b), .rw (.slice xa a.length xk) a.length 1 (icl a)] w1) := Lib.hid (E1.out.below hb)
  clear E0 E1 hb
  have hfin := Lib.hid E2.out.bel
  go_wp2
  go_ret2
  exact ⟨rfl, hfin.out⟩
set_option maxRecDepth 100000 in
set_option maxHeartbeats 1000000 in
theorem PAdd_ok {D : Nat → Prop} (q : Nat) (a b : List Nat) {xa ya : Option Addr} {xk yk : Nat} {w : World} (hx : Fct.at w D (.rw (.slice xa a.length xk) a.length 1 (ncl a))) (hy : Fct.at w D (.rw (.slice ya b.length yk) b.length 1 (ncl b))) (hl0 : Laid w) (hv0 : validB q [nl a, nl b] = true) (hq : 0 < q) (hqT : (q : Int) < Top) (ha0 : ∀ c ∈ a, c < q) (hb0 : ∀ c ∈ b, c < q) (hla : a.length ≤ 1000) (hlb : b.length ≤ 1000) :
    Calls Tryd.prog 30 #[.int .i64 (q : Nat), .slice xa a.length xk, .slice ya b.length yk] w fun e w' => RetIE (fun b => w.heap.size ≤ b) (trimN (addL q a b)) 0 e w' ∧ Below w.heap.size w w' := by
  have E0 : Hid (Env D w [] [.rw (.slice ya b.length yk) b.length 1 (ncl b), .rw (.slice xa a.length xk) a.length 1 (ncl a)] w) := Lib.hid (((Env.start D w).arg (.rw (.slice xa a.length xk) a.length 1 (ncl a)) hx).arg (.rw (.slice ya b.length yk) b.length 1 (ncl b)) hy)
  clear hx hy
  go_enter Tryd.func30, Tryd.ntmps30
  have hq2 : -9223372036854775808 ≤ (q : Int) ∧ (q : Int) ≤ 9223372036854775807 := by unfold Top at hqT; omega
  have HT := Lib.hid hqT
  clear hqT
  have hl := Lib.hid hl0
  have hv := Lib.hid hv0
  have ha := Lib.hid ha0
  have hb := Lib.hid hb0
  clear hl0 hv0 ha0 hb0
  have E1 : Hid (Env D w [(w.heap.size, 22, [.slice xa a.length xk, .slice ya b.length yk])] [.rw (.slice ya b.length yk) b.length 1 (ncl b), .rw (.slice xa a.length xk) a.length 1 (ncl a)] _) := Lib.hid ((E0.out.push 22 [.slice xa a.length xk, .slice ya b.length yk] (w.heap.size) (by simp)))
  go_wp2_with fail
  refine (valid_c q [nl a, nl b] (Mx.box2 (E1.out.bx 0 rfl) (Rw.toNl (E1.out.fc 1 rfl)) (Rw.toNl (E1.out.fc 0 rfl))) (hl.out.below E1.out.bel) hq2 hv.out (by simp)).mono ?_
  rintro e w1 ⟨rfl, hb⟩
  have E2 : Hid (Env D w [(w.heap.size, 22, [.slice xa a.length xk, .slice ya b.length yk])] [.rw (.slice ya b.length yk) b.length 1 (ncl b), .rw (.slice xa a.length xk) a.length 1 (ncl a)] w1) := Lib.hid (E1.out.below hb)
  clear E0 E1 hb
  have hsz := Lib.hid E2.out.bel.size
  go_wp2_with fail
  refine (sum_c q a b (E2.out.fc 1 rfl) (E2.out.fc 0 rfl) hq HT.out ha.out hb.out hla hlb).mono ?_
  rintro e w2 ⟨⟨za, zk, rfl, zh⟩, hb⟩
  have E3 : Hid (Env D w [(w.heap.size, 22, [.slice xa a.length xk, .slice ya b.length yk])] [.rw (.slice ya b.length yk) b.length 1 (ncl b), .rw (.slice xa a.length xk) a.length 1 (ncl a)] w2) := Lib.hid (E2.out.below hb)
  clear E2 hb
  have hbel := Lib.hid E3.out.bel
  go_wp2
  go_ret2
  exact ⟨⟨za, zk, rfl, Lib.hid (Rw.from zh.out hsz.out)⟩, hbel.out⟩
end Go.Proofs.YteipbcpnnojclaaDoor

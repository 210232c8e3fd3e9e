/- SessionOnce: the protocol's law, with no program in sight. -/
import Derived.Test.YtbcfcdcomboljaaSesBk
namespace Go.Proofs.Ytbcfcdcomboljaa
open Go.RowKit
set_option linter.unusedVariables false
/-- a request that was sent -/
def ReqOk (K : Int → Int) (nx : Int) (m : Msg) : Prop := m.fr = 3 ∧ m.to_ = 4 ∧ m.body = [] ∧ m.kd = K m.nm ∧ 0 ≤ m.nm ∧ m.nm < nx ∧ 0 ≤ m.kd ∧ m.kd ≤ 255
/-- an answer that was given -/
def AnsOk (K dn : Int → Int) (nx : Int) (a : Msg) : Prop := a.fr = 4 ∧ a.to_ = 3 ∧ a.body = [] ∧ a.kd = K a.nm ∧ 0 ≤ a.nm ∧ a.nm < nx ∧ 0 ≤ a.kd ∧ a.kd ≤ 255 ∧ dn a.nm = 1
/-- what holds after i steps -/
structure Inv (i : Nat) (c s : Ses) (TS TC : List Msg) (dn : Int → Int) (acc : Int) (K : Int → Int) : Prop where
  c1 : SesOk c
  c2 : c.dn = []
  c3 : c.wt = true → ReqOk K c.nx c.rq ∧ c.nx = acc + 1
  c4 : c.wt = false → c.nx = acc
  a0 : 0 ≤ acc
  ai : c.nx ≤ i
  s1 : SesOk s
  s3 : s.dn = [] ∨ ∃ a, s.dn = [a] ∧ AnsOk K dn c.nx a
  d1 : ∀ n, dn n = 0 ∨ dn n = 1
  d2 : ∀ n, dn n = 1 → 0 ≤ n ∧ n < c.nx ∧ ∃ a, s.dn = [a] ∧ n ≤ a.nm
  d3 : ∀ n, 0 ≤ n → n < acc → dn n = 1
  t1 : ∀ m ∈ TS, ReqOk K c.nx m
  t2 : ∀ a ∈ TC, AnsOk K dn c.nx a
  l1 : TS.length ≤ i
  l2 : TC.length ≤ i
theorem ReqOk.ok {K : Int → Int} {nx : Int} {m : Msg} (h : ReqOk K nx m) (hn : nx ≤ 1000) : msgOk m = true := by
  obtain ⟨h1, h2, h3, h4, h5, h6, h7, h8⟩ := h
  unfold msgOk par
  rw [h1, h2, h3]
  simp only [Bool.and_eq_true, decide_eq_true_eq, List.length_nil]
  omega
theorem AnsOk.ok {K dn : Int → Int} {nx : Int} {m : Msg} (h : AnsOk K dn nx m) (hn : nx ≤ 1000) : msgOk m = true := by
  obtain ⟨h1, h2, h3, h4, h5, h6, h7, h8, h9⟩ := h
  unfold msgOk par
  rw [h1, h2, h3]
  simp only [Bool.and_eq_true, decide_eq_true_eq, List.length_nil]
  omega
theorem ReqOk.lift {K K' : Int → Int} {nx nx' : Int} {m : Msg} (h : ReqOk K nx m) (hn : nx ≤ nx') (hK : ∀ n, n < nx → K' n = K n) : ReqOk K' nx' m := by
  obtain ⟨h1, h2, h3, h4, h5, h6, h7, h8⟩ := h
  exact ⟨h1, h2, h3, by rw [hK _ h6]; exact h4, h5, by omega, h7, h8⟩
theorem AnsOk.lift {K K' dn dn' : Int → Int} {nx nx' : Int} {m : Msg} (h : AnsOk K dn nx m) (hn : nx ≤ nx') (hK : ∀ n, n < nx → K' n = K n) (hd : ∀ n, dn n = 1 → dn' n = 1) : AnsOk K' dn' nx' m := by
  obtain ⟨h1, h2, h3, h4, h5, h6, h7, h8, h9⟩ := h
  exact ⟨h1, h2, h3, by rw [hK _ h6]; exact h4, h5, by omega, h7, h8, hd _ h9⟩
theorem Inv.start (K : Int → Int) : Inv 0 S0 S0 [] [] (fun _ => 0) 0 K where
  c1 := S0.ok
  c2 := rfl
  c3 := fun h => absurd h (by decide)
  c4 := fun _ => rfl
  a0 := by omega
  ai := by decide
  s1 := S0.ok
  s3 := .inl rfl
  d1 := fun _ => .inl rfl
  d2 := fun n h => absurd h (by decide)
  d3 := fun n h1 h2 => by omega
  t1 := fun m h => absurd h (by simp)
  t2 := fun m h => absurd h (by simp)
  l1 := by simp
  l2 := by simp
variable {i : Nat} {c s : Ses} {TS TC : List Msg} {dn : Int → Int} {acc : Int} {K : Int → Int}
theorem Inv.skip (h : Inv i c s TS TC dn acc K) : Inv (i + 1) c s TS TC dn acc K :=
  { h with ai := by have := h.ai; omega, l1 := by have := h.l1; omega, l2 := by have := h.l2; omega }
theorem Inv.bd (h : Inv i c s TS TC dn acc K) : 0 ≤ acc ∧ acc ≤ c.nx ∧ 0 ≤ c.nx ∧ c.nx ≤ i := by
  have h1 := h.a0; have h2 := h.ai; have h3 := h.c1.1.1
  cases hw : c.wt
  · have := h.c4 hw; omega
  · have := (h.c3 hw).2; omega
theorem msgZ_zero {M : Msg} (h : msgZ M = true) : M = M0 := by
  obtain ⟨fr, to_, kd, nm, body⟩ := M
  unfold msgZ at h
  simp only [Bool.and_eq_true, decide_eq_true_eq] at h
  obtain ⟨⟨⟨⟨rfl, rfl⟩, rfl⟩, rfl⟩, h⟩ := h
  obtain rfl := List.length_eq_zero_iff.1 h
  rfl
theorem Inv.zero {nx tr : Int} {rq : Msg} {cdn : List Msg} (h : Inv i ⟨nx, false, rq, cdn, tr⟩ s TS TC dn acc K) : rq = M0 := msgZ_zero (h.c1.2.2.1 rfl).1
theorem ReqOk.is {m : Msg} {nx : Int} (h : ReqOk K nx m) : ∃ kd nm, m = ⟨3, 4, kd, nm, []⟩ := by
  obtain ⟨fr, to_, kd, nm, body⟩ := m
  obtain ⟨rfl, rfl, rfl, _⟩ := h
  exact ⟨_, _, rfl⟩
theorem AnsOk.is {m : Msg} {nx : Int} (h : AnsOk K dn nx m) : ∃ kd nm, m = ⟨4, 3, kd, nm, []⟩ := by
  obtain ⟨fr, to_, kd, nm, body⟩ := m
  obtain ⟨rfl, rfl, rfl, _⟩ := h
  exact ⟨_, _, rfl⟩
/-- the check at a step's end -/
theorem Inv.chk (h : Inv i c s TS TC dn acc K) : (c.wt = true → c.nx = acc + 1) ∧ (c.wt = false → c.nx = acc) := ⟨fun g => (h.c3 g).2, h.c4⟩
theorem Inv.again (h : Inv i c s TS TC dn acc K) (hw : c.wt = true) (ht : c.tr ≠ 100) : Inv (i + 1) ⟨c.nx, true, c.rq, c.dn, c.tr + 1⟩ s (TS ++ [c.rq]) TC dn acc K where
  c1 := by
    obtain ⟨g1, g2, g3, g4⟩ := h.c1
    obtain ⟨e1, e2, e3, e4⟩ := g2 hw
    exact ⟨g1, fun _ => ⟨e1, e2, by dsimp only; omega, by dsimp only; omega⟩, fun g => absurd g (by simp), g4⟩
  c2 := h.c2
  c3 := fun _ => h.c3 hw
  c4 := fun g => absurd g (by simp)
  a0 := h.a0
  ai := by have := h.ai; dsimp only; omega
  s1 := h.s1
  s3 := h.s3
  d1 := h.d1
  d2 := h.d2
  d3 := h.d3
  t1 := fun m hm => by
    rcases List.mem_append.1 hm with hm | hm
    · exact h.t1 m hm
    · obtain rfl : m = c.rq := by simpa using hm
      exact (h.c3 hw).1
  t2 := h.t2
  l1 := by have := h.l1; simp; omega
  l2 := by have := h.l2; omega
theorem Inv.ask (h : Inv i c s TS TC dn acc K) (hw : c.wt = false) (hn : c.nx ≤ 900) (kd : Int) (h0 : 0 ≤ kd) (h1 : kd ≤ 255) :
    Inv (i + 1) ⟨c.nx + 1, true, ⟨3, 4, kd, c.nx, []⟩, c.dn, 1⟩ s (TS ++ [⟨3, 4, kd, c.nx, []⟩]) TC dn acc (fun n => if n = c.nx then kd else K n) := by
  have hK : ∀ n, n < c.nx → (fun n => if n = c.nx then kd else K n) n = K n := fun n hn => by
    have : n ≠ c.nx := by omega
    simp [this]
  have hr : ReqOk (fun n => if n = c.nx then kd else K n) (c.nx + 1) ⟨3, 4, kd, c.nx, []⟩ := ⟨rfl, rfl, rfl, by simp, h.c1.1.1, by dsimp only; omega, h0, h1⟩
  exact
  { c1 := by
      obtain ⟨g1, g2, g3, g4⟩ := h.c1
      refine ⟨⟨by have := g1.1; dsimp only; omega, by dsimp only; omega, g1.2.2⟩, fun _ => ⟨hr.ok (by omega), by dsimp only; omega, by dsimp only; omega, by dsimp only; omega⟩, fun g => absurd g (by simp), g4⟩
    c2 := h.c2
    c3 := fun _ => ⟨hr, by have := h.c4 hw; dsimp only; omega⟩
    c4 := fun g => absurd g (by simp)
    a0 := h.a0
    ai := by have := h.ai; dsimp only; omega
    s1 := h.s1
    s3 := by
      rcases h.s3 with g | ⟨a, g, ha⟩
      · exact .inl g
      · exact .inr ⟨a, g, ha.lift (by dsimp only; omega) hK (fun _ h => h)⟩
    d1 := h.d1
    d2 := fun n hn => by obtain ⟨e1, e2, e3⟩ := h.d2 n hn; exact ⟨e1, by dsimp only; omega, e3⟩
    d3 := h.d3
    t1 := fun m hm => by
      rcases List.mem_append.1 hm with hm | hm
      · exact (h.t1 m hm).lift (by dsimp only; omega) hK
      · obtain rfl : m = ⟨3, 4, kd, c.nx, []⟩ := by simpa using hm
        exact hr
    t2 := fun a ha => (h.t2 a ha).lift (by dsimp only; omega) hK (fun _ h => h)
    l1 := by have := h.l1; simp; omega
    l2 := by have := h.l2; omega }
theorem Inv.got (h : Inv i c s TS TC dn acc K) {k : Nat} (hk : k < TS.length) : ReqOk K c.nx TS[k] := h.t1 _ (List.getElem_mem hk)
theorem Inv.gotA (h : Inv i c s TS TC dn acc K) {k : Nat} (hk : k < TC.length) : AnsOk K dn c.nx TC[k] := h.t2 _ (List.getElem_mem hk)
/-- what Known says of a request -/
theorem Inv.known (h : Inv i c s TS TC dn acc K) (hi : i ≤ 1000) {m a : Msg} {e : Int} (hm : ReqOk K c.nx m) (hk : KnRel s m a e) :
    (e = 7 ∧ dn m.nm = 0) ∨ (e = 14 ∧ dn m.nm = 1) ∨ (e = 0 ∧ dn m.nm = 1 ∧ blg a m = true ∧ a.kd = m.kd ∧ AnsOk K dn c.nx a) := by
  have hai := h.ai
  have hmo := hm.ok (by omega)
  obtain ⟨m1, m2, m3, m4, m5, m6, m7, m8⟩ := hm
  rcases h.s3 with g | ⟨b, g, hb⟩
  · obtain ⟨_, rfl⟩ := hk.none h.s1 hmo (by rw [g]; simp)
    refine .inl ⟨rfl, ?_⟩
    rcases h.d1 m.nm with e | e
    · exact e
    · obtain ⟨_, _, a, e, _⟩ := h.d2 _ e
      rw [g] at e; exact absurd e (by simp)
  · have hb' := hb
    obtain ⟨b1, b2, b3, b4, b5, b6, b7, b8, b9⟩ := hb
    rcases hk.at h.s1 hmo (m := b) (by rw [g]; simp) (by omega) with ⟨hlt, _, rfl⟩ | ⟨hlt, _, rfl⟩ | ⟨he, rfl, rfl⟩
    · refine .inl ⟨rfl, ?_⟩
      rcases h.d1 m.nm with e | e
      · exact e
      · obtain ⟨_, _, a, e, hl⟩ := h.d2 _ e
        rw [g] at e
        obtain rfl : b = a := by simpa using e
        omega
    · refine .inr (.inl ⟨rfl, h.d3 _ m5 ?_⟩)
      cases hw : c.wt
      · have := h.c4 hw; omega
      · have := (h.c3 hw).2; omega
    · refine .inr (.inr ⟨rfl, by rw [← he]; exact b9, ?_, by rw [b4, m4, he], hb'⟩)
      unfold blg
      simp only [Bool.and_eq_true, decide_eq_true_eq]
      omega
theorem Inv.answer (h : Inv i c s TS TC dn acc K) {a : Msg} (ha : AnsOk K dn c.nx a) : Inv (i + 1) c s TS (TC ++ [a]) dn acc K :=
  { h.skip with
    t2 := fun x hx => by
      rcases List.mem_append.1 hx with hx | hx
      · exact h.t2 x hx
      · obtain rfl : x = a := by simpa using hx
        exact ha
    l2 := by have := h.l2; simp; omega }
/-- a request is carried out -/
theorem Inv.serve (h : Inv i c s TS TC dn acc K) (hi : i ≤ 1000) {m a b : Msg} {t : Ses} {e f : Int} (hm : ReqOk K c.nx m) (hk : KnRel s m a 7) (hd : DnRel s m ⟨0, 0, m.kd, 0, []⟩ t e) (hb : KnRel t m b f) :
    e = 0 ∧ f = 0 ∧ blg b m = true ∧ b.kd = m.kd ∧ Inv (i + 1) c t TS (TC ++ [b]) (fun n => if n = m.nm then 1 else dn n) acc K := by
  have hai := h.ai
  have hmo := hm.ok (by omega)
  have hm' := hm
  obtain ⟨m1, m2, m3, m4, m5, m6, m7, m8⟩ := hm
  have hao : msgOk ⟨0, 0, m.kd, 0, []⟩ = true := by
    unfold msgOk par; simp only [Bool.and_eq_true, decide_eq_true_eq, List.length_nil]; omega
  have hdn : dn m.nm = 0 := by
    rcases h.known hi hm' hk with ⟨_, g⟩ | ⟨g, _⟩ | ⟨g, _⟩
    · exact g
    · exact absurd g (by decide)
    · exact absurd g (by decide)
  -- what Done did
  have hD : e = 0 ∧ t.dn = [rem m ⟨0, 0, m.kd, 0, []⟩] := by
    rcases h.s3 with g | ⟨x, g, hx⟩
    · rcases hd with ⟨q, _⟩ | ⟨_, ⟨hn, ⟨q, _⟩ | ⟨_, j, hj, rfl, rfl⟩⟩ | ⟨k, hkl, _⟩⟩
      · exact absurd ⟨h.s1, hmo, hao⟩ q
      · rw [g] at q; simp at q
      · refine ⟨rfl, ?_⟩
        show insL s.dn j _ = _
        rw [g]; simp [insL]
      · rw [g] at hkl; simp at hkl
    · obtain ⟨x1, x2, x3, x4, x5, x6, x7, x8, x9⟩ := hx
      have h0 : 0 < s.dn.length := by rw [g]; simp
      rcases hd with ⟨q, _⟩ | ⟨_, ⟨hn, _⟩ | ⟨k, hkl, hto, q⟩⟩
      · exact absurd ⟨h.s1, hmo, hao⟩ q
      · exact absurd (show s.dn[0].to_ = m.fr by simp only [g, List.getElem_cons_zero]; omega) (hn 0 h0)
      · have hk0 : k = 0 := by rw [g] at hkl; simp at hkl; omega
        subst hk0
        have hx0 : s.dn[0] = x := by simp only [g, List.getElem_cons_zero]
        rw [hx0] at q
        have hlt : x.nm < m.nm := by
          rcases hk.at h.s1 hmo (m := x) (by rw [g]; simp) (by omega) with ⟨hlt, _⟩ | ⟨_, _, q⟩ | ⟨_, _, q⟩
          · exact hlt
          · exact absurd q (by decide)
          · exact absurd q (by decide)
        rcases q with ⟨q, _⟩ | ⟨q, _⟩ | ⟨_, rfl, rfl⟩
        · omega
        · omega
        · refine ⟨rfl, ?_⟩
          show s.dn.set 0 _ = _
          rw [g]; rfl
  obtain ⟨rfl, hD⟩ := hD
  obtain ⟨rfl, rfl⟩ := keeps_known hd hb
  obtain ⟨hS, hT, _⟩ := hd.mem
  have hans : AnsOk K (fun n => if n = m.nm then 1 else dn n) c.nx (rem m ⟨0, 0, m.kd, 0, []⟩) := ⟨m2, m1, rfl, m4, m5, m6, m7, m8, by simp [rem]⟩
  have hup : ∀ n, dn n = 1 → (fun n => if n = m.nm then 1 else dn n) n = 1 := fun n hn => by
    by_cases e : n = m.nm
    · simp [e]
    · simp [e, hn]
  refine ⟨rfl, rfl, by simp [blg, rem], rfl, ?_⟩
  exact
  { c1 := h.c1, c2 := h.c2, c3 := h.c3, c4 := h.c4, a0 := h.a0
    ai := by omega
    s1 := hT
    s3 := .inr ⟨_, hD, hans⟩
    d1 := fun n => by
      by_cases e : n = m.nm
      · simp [e]
      · simp only [e, if_false]; exact h.d1 n
    d2 := fun n hn => by
      by_cases e : n = m.nm
      · subst e; exact ⟨m5, m6, _, hD, Int.le_refl _⟩
      · simp only [e, if_false] at hn
        obtain ⟨e1, e2, x, g, hl⟩ := h.d2 n hn
        refine ⟨e1, e2, _, hD, ?_⟩
        rcases hk.at h.s1 hmo (m := x) (by rw [g]; simp) (by
          rcases h.s3 with g' | ⟨y, g', hy⟩
          · rw [g] at g'; exact absurd g' (by simp)
          · rw [g] at g'
            obtain rfl : x = y := by simpa using g'
            rw [hy.2.1, m1]) with ⟨hlt, _⟩ | ⟨_, _, q⟩ | ⟨_, _, q⟩
        · show n ≤ m.nm; omega
        · exact absurd q (by decide)
        · exact absurd q (by decide)
    d3 := fun n h1 h2 => hup n (h.d3 n h1 h2)
    t1 := h.t1
    t2 := fun x hx => by
      rcases List.mem_append.1 hx with hx | hx
      · exact (h.t2 x hx).lift (Int.le_refl _) (fun _ _ => rfl) hup
      · obtain rfl : x = rem m ⟨0, 0, m.kd, 0, []⟩ := by simpa using hx
        exact hans
    l1 := by have := h.l1; omega
    l2 := by have := h.l2; simp; omega }
/-- an answer is accepted -/
theorem Inv.accept (h : Inv i c s TS TC dn acc K) {m : Msg} (hm : AnsOk K dn c.nx m) (hw : c.wt = true) (hb : blg m c.rq = true) :
    m.kd = c.rq.kd ∧ dn m.nm = 1 ∧ Inv (i + 1) ⟨c.nx, false, M0, c.dn, 0⟩ s TS TC dn (acc + 1) K := by
  obtain ⟨m1, m2, m3, m4, m5, m6, m7, m8, m9⟩ := hm
  obtain ⟨⟨r1, r2, r3, r4, r5, r6, r7, r8⟩, hx⟩ := h.c3 hw
  unfold blg at hb
  simp only [Bool.and_eq_true, decide_eq_true_eq] at hb
  obtain ⟨g1, g2, g3, g4⟩ := h.c1
  obtain ⟨_, q2, _⟩ := g2 hw
  refine ⟨by rw [m4, r4, hb.2], m9, ?_⟩
  exact
  { h.skip with
    c1 := ⟨g1, fun g => absurd g (by simp), fun _ => ⟨(show msgZ M0 = true by decide), rfl⟩, g4⟩
    c3 := fun g => absurd g (by simp)
    c4 := fun _ => hx
    a0 := by have := h.a0; omega
    d3 := fun n h1 h2 => by
      by_cases e : n = m.nm
      · subst e; exact m9
      · exact h.d3 n h1 (by omega) }
end Go.Proofs.Ytbcfcdcomboljaa

/- What two contacts that begin anew keep: plain facts.
Conditions: none; no program in sight. -/
import Derived.Test.YtelahacalnmilaaC2
set_option linter.unusedSimpArgs false
namespace Go.K
theorem and_low (n c d : Int) (j : Nat) (hj : j ≤ 62) (hc : c = ((2 ^ j - 1 : Nat) : Int)) (hd : d = ((2 ^ j : Nat) : Int)) : IntKind.i64.wrap ((BitVec.ofInt IntKind.i64.bits n &&& BitVec.ofInt IntKind.i64.bits c).toNat : Int) = n % d := by
  have hb : IntKind.i64.bits = 64 := rfl
  have hp : (2 : Nat) ^ j ≤ 2 ^ 62 := Nat.pow_le_pow_right (by decide) hj
  have hp0 : 0 < (2 : Nat) ^ j := Nat.two_pow_pos j
  rw [hb, BitVec.toNat_and, BitVec.toNat_ofInt, BitVec.toNat_ofInt, hc, hd]
  have e2 : (((2 ^ j - 1 : Nat) : Int) % ((2 ^ 64 : Nat) : Int)).toNat = 2 ^ j - 1 := by
    have : ((2 ^ 64 : Nat) : Int) = 18446744073709551616 := rfl
    rw [this]; omega
  rw [e2, Nat.and_two_pow_sub_one_eq_mod]
  have hm : (n % ((2 ^ 64 : Nat) : Int)).toNat % 2 ^ j < 2 ^ j := Nat.mod_lt _ hp0
  rw [wrap_i64 (by omega)]
  have hnn : 0 ≤ n % ((2 ^ 64 : Nat) : Int) := Int.emod_nonneg _ (by decide)
  rw [Int.natCast_emod, Int.toNat_of_nonneg hnn]
  refine Int.emod_emod_of_dvd n ?_
  exact Int.natCast_dvd_natCast.2 (Nat.pow_dvd_pow 2 (by omega))
theorem pick_some {n : Nat} {a : Int} (ha : 0 ≤ a) (hn : 0 < n) : ∃ j : Nat, a.tmod (n : Int) = (j : Int) ∧ j < n := by
  rw [Int.tmod_eq_emod_of_nonneg ha]
  have h1 := Int.emod_nonneg a (show (n : Int) ≠ 0 by omega)
  have h2 := Int.emod_lt_of_pos a (show (0 : Int) < n by omega)
  exact ⟨(a % (n : Int)).toNat, by omega, by omega⟩
theorem getD_mem {α : Type} {l : List α} {j : Nat} (h : j < l.length) (d : α) : l.getD j d ∈ l := by
  rw [List.getD_eq_getElem?_getD, List.getElem?_eq_getElem h]; exact List.getElem_mem h
def Msg.rowc (m : Msg) : List Value := m.cells.toList
theorem Msg.rowc_len (m : Msg) : m.rowc.length = 11 := rfl
namespace Con
structure Ev where
  do_ : Int
  who : Int
  n : Int
def Ev.cells (s : Ev) : List Value := [.int .i64 s.do_, .int .i64 s.who, .int .i64 s.n]
def etags : List (Nat × IntKind) := [(0, .i64), (0, .i64), (0, .i64)]
theorem Ev.len (s : Ev) : s.cells.length = 3 := rfl
def Ev.dflt : Ev := ⟨0, 0, 0⟩
theorem Ev.of_wf {q : List Value} (h : wfVs etags q) : ∃ s : Ev, q = s.cells := by
  obtain ⟨v0, c0, rfl, h0, k0⟩ := wfVs_cons (show wfVs ((0, IntKind.i64) :: (0, IntKind.i64) :: (0, IntKind.i64) :: []) q from h)
  obtain ⟨v1, c1, rfl, h1, k1⟩ := wfVs_cons k0
  obtain ⟨v2, c2, rfl, h2, k2⟩ := wfVs_cons k1
  obtain ⟨n0, rfl, w0⟩ := wfV_int h0
  obtain ⟨n1, rfl, w1⟩ := wfV_int h1
  obtain ⟨n2, rfl, w2⟩ := wfV_int h2
  have : c2 = [] := List.eq_nil_of_length_eq_zero (by simpa using wfVs_len k2)
  subst this
  exact ⟨⟨n0, n1, n2⟩, rfl⟩
/-- One of the two: where it lies, what it is, its life, what it said, what it heard last. -/
structure Sd where
  b : Nat
  c : Con
  m : Int
  p : Option Addr
  n : Nat
  k : Nat
  q : Sg
  xs : List Value
  l : List Msg
  a : Int
  d : Int
structure Sd.ok (e : TypeId) (s t : Sd) (i : Nat) : Prop where
  inv : s.c.Inv
  mine : s.c.mine = s.m
  own : Ow e 11 (.slice s.p s.n s.k) s.n s.xs s.q
  flat : s.xs = (s.l.map Msg.rowc).flatten
  len : s.n = s.l.length
  ha : s.a = s.c.known
  hd : s.d = s.c.hello
  known : s.c.known ≤ t.m
  life : ∀ m ∈ s.l, m.life ≤ s.m
  few : s.m ≤ i + 1
  one : 1 ≤ s.m
  said : s.c.said ≤ i
  many : s.n ≤ i
variable {e : TypeId} {s t : Sd} {i : Nat}
theorem Sd.first {b : Nat} {t : Sd} (ht : 1 ≤ t.m) : Sd.ok e ⟨b, new 1, 1, none, 0, 0, [], [], [], 0, 0⟩ t 0 :=
  ⟨inv_new (by decide), rfl, Ow.nil _ _, rfl, rfl, rfl, rfl, by show (0 : Int) ≤ t.m; omega, (fun _ h => by cases h), (show (1 : Int) ≤ ((0 : Nat) : Int) + 1 by decide), (show (1 : Int) ≤ 1 by decide), (show (0 : Int) ≤ ((0 : Nat) : Int) by decide), Nat.le_refl 0⟩
theorem Sd.ok.rest (h : Sd.ok e s t i) {t' : Sd} (ht : t.m ≤ t'.m) : Sd.ok e s t' (i + 1) :=
  ⟨h.inv, h.mine, h.own, h.flat, h.len, h.ha, h.hd, Int.le_trans h.known ht, h.life, by have := h.few; omega, h.one, by have := h.said; omega, by have := h.many; omega⟩
theorem Sd.ok.say (h : Sd.ok e s t i) {c' : Con} {m' : Msg} {p : Option Addr} {n k : Nat} {q : Sg} {xs : List Value} (h1 : c'.Inv) (h2 : c'.mine = s.c.mine) (h3 : c'.known = s.c.known) (h4 : c'.hello = s.c.hello) (h5 : c'.said ≤ i + 1)
    (hm : m'.life = s.m) (ho : Ow e 11 (.slice p n k) n xs q) (hx : xs = s.xs ++ m'.rowc) (hn : n = s.n + 1) : Sd.ok e ⟨s.b, c', s.m, p, n, k, q, xs, s.l ++ [m'], s.a, s.d⟩ t (i + 1) :=
  ⟨h1, h2.trans h.mine, ho, by rw [hx, h.flat, List.map_append, List.flatten_append]; simp, by simp only [List.length_append, List.length_singleton]; rw [hn, h.len], h.ha.trans h3.symm, h.hd.trans h4.symm, by show c'.known ≤ t.m; rw [h3]; exact h.known,
    fun m hm' => by
      rcases List.mem_append.1 hm' with hm' | hm'
      · exact h.life m hm'
      · rw [List.mem_singleton] at hm'; subst hm'; exact Int.le_of_eq hm,
    by have := h.few; show s.m ≤ ((i + 1 : Nat) : Int) + 1; omega, h.one, by show c'.said ≤ ((i + 1 : Nat) : Int); omega, by have := h.many; show n ≤ i + 1; omega⟩
theorem hello_know (c : Con) (st : Int) : (helloC c st).hello = c.hello ∧ (helloC c st).said ≤ c.said + 1 := by
  unfold helloC; split
  · exact ⟨rfl, by simp only; omega⟩
  · exact ⟨rfl, by omega⟩
theorem Sd.ok.hello (h : Sd.ok e s t i) {st : Int} (hE : helloE s.c st = 0) {p : Option Addr} {n k : Nat} {q : Sg} {xs : List Value} (ho : Ow e 11 (.slice p n k) n xs q) (hx : xs = s.xs ++ (helloM s.c st).rowc) (hn : n = s.n + 1) :
    Sd.ok e ⟨s.b, helloC s.c st, s.m, p, n, k, q, xs, s.l ++ [helloM s.c st], s.a, s.d⟩ t (i + 1) :=
  h.say (inv_hello h.inv _) (hello_mine _ _).1 (hello_mine _ _).2 (hello_know _ _).1 (by have := (hello_know s.c st).2; have := h.said; omega) (by rw [(hello_yes hE).2]; exact h.mine) ho hx hn
theorem Sd.ok.mark (h : Sd.ok e s t i) (m0 : Msg) {p : Option Addr} {n k : Nat} {q : Sg} {xs : List Value} (ho : Ow e 11 (.slice p n k) n xs q) (hx : xs = s.xs ++ (Con.mark s.c m0).rowc) (hn : n = s.n + 1) :
    Sd.ok e ⟨s.b, s.c, s.m, p, n, k, q, xs, s.l ++ [Con.mark s.c m0], s.a, s.d⟩ t (i + 1) :=
  h.say h.inv rfl rfl rfl (by have := h.said; omega) h.mine ho hx hn
theorem Sd.ok.is (h : Sd.ok e s t i) {c' : Con} {a d : Int} (h1 : c'.Inv) (h2 : c'.mine = s.c.mine) (h3 : c'.known ≤ t.m) (ha : a = c'.known) (hd : d = c'.hello) (h5 : c'.said = s.c.said) : Sd.ok e ⟨s.b, c', s.m, s.p, s.n, s.k, s.q, s.xs, s.l, a, d⟩ t (i + 1) :=
  ⟨h1, h2.trans h.mine, h.own, h.flat, h.len, ha, hd, h3, h.life, by have := h.few; show s.m ≤ ((i + 1 : Nat) : Int) + 1; omega, h.one, by have := h.said; show c'.said ≤ ((i + 1 : Nat) : Int); omega, by have := h.many; show s.n ≤ i + 1; omega⟩
theorem takeE_ok {c : Con} {m : Msg} {now : Int} (h : takeE c m now = 0) : moment now = true ∧ Msg.right m = true ∧ fits c m = true := by
  unfold takeE at h
  split at h
  · split at h
    · split at h
      · rename_i h1 h2 h3; exact ⟨h1, h2, h3⟩
      · cases h
    · cases h
  · cases h
theorem take_bad {c : Con} {m : Msg} {now : Int} (h : takeE c m now ≠ 0) : takeC c m now = c := by
  refine (take_no ?_).1
  cases h1 : moment now
  · rfl
  · cases h2 : Msg.right m
    · rfl
    · cases h3 : fits c m
      · rfl
      · exact absurd (by unfold takeE; rw [h1, h2, h3]; rfl) h
theorem Sd.ok.takeBad (h : Sd.ok e s t i) {m : Msg} {now : Int} (hE : takeE s.c m now ≠ 0) : Sd.ok e ⟨s.b, takeC s.c m now, s.m, s.p, s.n, s.k, s.q, s.xs, s.l, s.a, s.d⟩ t (i + 1) := by
  rw [take_bad hE]; exact h.rest (Int.le_refl _)
theorem Sd.ok.takeSome (h : Sd.ok e s t i) {m : Msg} {now : Int} (hE : takeE s.c m now = 0) (hk : ¬ m.kind = 1) : Sd.ok e ⟨s.b, takeC s.c m now, s.m, s.p, s.n, s.k, s.q, s.xs, s.l, s.a, s.d⟩ t (i + 1) := by
  obtain ⟨h1, h2, h3⟩ := takeE_ok hE
  have e := (take_some h1 h2 h3 hk).1
  exact h.is (inv_take h.inv _ _) (take_mine _ _ _).1 (by rw [e]; exact h.known) (by rw [e]; exact h.ha) (by rw [e]; exact h.hd) (take_mine _ _ _).2
theorem Sd.ok.takeHello (h : Sd.ok e s t i) {m : Msg} {now : Int} (hE : takeE s.c m now = 0) (hk : m.kind = 1) (hl : m.life ≤ t.m) : Sd.ok e ⟨s.b, takeC s.c m now, s.m, s.p, s.n, s.k, s.q, s.xs, s.l, m.life, m.xid⟩ t (i + 1) := by
  obtain ⟨h1, h2, h3⟩ := takeE_ok hE
  have e := (take_hello h1 h2 h3 hk rfl).1
  exact h.is (inv_take h.inv _ _) (take_mine _ _ _).1 (by rw [e]; exact hl) (by rw [e]) (by rw [e]) (take_mine _ _ _).2
theorem tick_know (c : Con) (now : Int) : (tickC c now).known = c.known ∧ (tickC c now).hello = c.hello := by
  unfold tickC; split <;> exact ⟨rfl, rfl⟩
theorem Sd.ok.tick (h : Sd.ok e s t i) (now : Int) : Sd.ok e ⟨s.b, tickC s.c now, s.m, s.p, s.n, s.k, s.q, s.xs, s.l, s.a, s.d⟩ t (i + 1) :=
  h.is (inv_tick h.inv _) (tick_mine _ _).1 (by rw [(tick_know _ _).1]; exact h.known) (h.ha.trans (tick_know _ _).1.symm) (h.hd.trans (tick_know _ _).2.symm) (tick_mine _ _).2
theorem Sd.ok.anew (h : Sd.ok e s t i) {b : Nat} (hi : i ≤ 250) (ht : 1 ≤ t.m) : Sd.ok e ⟨b, new (s.m + 1), s.m + 1, s.p, s.n, s.k, s.q, s.xs, s.l, 0, 0⟩ t (i + 1) := by
  have h1 := h.few
  have h2 := h.one
  exact ⟨inv_new (by omega), rfl, h.own, h.flat, h.len, rfl, rfl, by show (0 : Int) ≤ t.m; omega, fun m hm => by have := h.life m hm; show m.life ≤ s.m + 1; omega, by show s.m + 1 ≤ ((i + 1 : Nat) : Int) + 1; omega, by show 1 ≤ s.m + 1; omega,
    by show (0 : Int) ≤ ((i + 1 : Nat) : Int); omega, by have := h.many; show s.n ≤ i + 1; omega⟩
/-! what the law looks at -/
theorem Sd.ok.helloE (h : Sd.ok e s t i) (hi : i < 250) {st : Int} (hs : 0 ≤ st ∧ st < 8) : helloE s.c st = 0 := by
  have := h.said
  exact helloE_0 (by omega) (by omega)
theorem Sd.ok.see (h : Sd.ok e s t i) {m : Msg} {now : Int} (hE : takeE s.c m now = 0) (hk : ¬ m.kind = 1) : m.seen = s.m ∧ m.life = (takeC s.c m now).known := by
  obtain ⟨h1, h2, h3⟩ := takeE_ok hE
  rw [(take_some h1 h2 h3 hk).1]
  unfold fits at h3
  rw [if_neg hk] at h3
  simp only [Bool.and_eq_true, beq_iff_eq] at h3
  exact ⟨h3.2.2.trans h.mine, h3.2.1⟩
theorem Sd.ok.hear (h : Sd.ok e s t i) {m : Msg} {now : Int} (hE : takeE s.c m now = 0) (hk : m.kind = 1) : ¬ s.a > m.life ∧ (s.a = m.life → ¬ s.d ≥ m.xid) := by
  obtain ⟨h1, h2, h3⟩ := takeE_ok hE
  have ha := h.ha
  have hd := h.hd
  unfold fits at h3
  rw [if_pos hk] at h3
  simp only [Bool.or_eq_true, Bool.and_eq_true, beq_iff_eq, decide_eq_true_eq] at h3
  omega
end Con
end Go.K

/- What the laws on contacts need: plain facts.
Conditions: none; no program in sight. -/
import Derived.Test.YtelahacalnmilaaC1
import Derived.Test.YtelahacalnmilaaK15
set_option linter.unusedSimpArgs false
namespace Go.K
namespace Con
def stags : List (Nat × IntKind) := (0, .i64) :: (0, .i64) :: (0, .i64) :: Msg.tags11
theorem Stp.len (s : Stp) : s.cells.length = 14 := rfl
def Stp.dflt : Stp := ⟨0, 0, 0, Msg.zero⟩
theorem Stp.of_wf {q : List Value} (h : wfVs stags q) : ∃ s : Stp, q = s.cells ∧ (-9223372036854775808 ≤ s.n ∧ s.n ≤ 9223372036854775807) := by
  obtain ⟨v0, c0, rfl, h0, k0⟩ := wfVs_cons (show wfVs ((0, IntKind.i64) :: (0, IntKind.i64) :: (0, IntKind.i64) :: Msg.tags11) q from h)
  obtain ⟨v1, c1, rfl, h1, k1⟩ := wfVs_cons k0
  obtain ⟨v2, c2, rfl, h2, k2⟩ := wfVs_cons k1
  obtain ⟨n0, rfl, w0⟩ := wfV_int h0
  obtain ⟨n1, rfl, w1⟩ := wfV_int h1
  obtain ⟨n2, rfl, w2⟩ := wfV_int h2
  obtain ⟨m, hm, _⟩ := Msg.of_wf k2
  exact ⟨⟨n0, n1, n2, m⟩, by show _ = _ :: _ :: _ :: m.cells.toList; rw [← hm], Go.bounds_i64 w2⟩
theorem take_mine (c : Con) (m : Msg) (now : Int) : (takeC c m now).mine = c.mine ∧ (takeC c m now).said = c.said := by
  unfold takeC; split
  · split <;> exact ⟨rfl, rfl⟩
  · exact ⟨rfl, rfl⟩
theorem tick_mine (c : Con) (now : Int) : (tickC c now).mine = c.mine ∧ (tickC c now).said = c.said := by
  unfold tickC; split <;> exact ⟨rfl, rfl⟩
theorem hello_mine (c : Con) (s : Int) : (helloC c s).mine = c.mine ∧ (helloC c s).known = c.known := by
  unfold helloC; split <;> exact ⟨rfl, rfl⟩
theorem step_mine (c : Con) (s : Stp) : (step c s).mine = c.mine := by
  unfold step; split
  · exact (take_mine _ _ _).1
  · split
    · exact (tick_mine _ _).1
    · split
      · exact (hello_mine _ _).1
      · rfl
theorem step_said (c : Con) {s : Stp} (h : ¬ s.do_ = 2) : (step c s).said = c.said := by
  unfold step; split
  · exact (take_mine _ _ _).2
  · split
    · exact (tick_mine _ _).2
    · first | rfl | rw [if_neg h]
/-- Two that say hello to one another, round for round. -/
def meet (l0 l1 now : Int) : Nat → Con × Con
  | 0 => (new l0, new l1)
  | i + 1 =>
    let p := meet l0 l1 now i
    let a1 := helloC p.1 1
    let b1 := takeC p.2 (helloM p.1 1) now
    (takeC a1 (helloM b1 1) now, helloC b1 1)
theorem inv_meet {l0 l1 now : Int} (h0 : 1 ≤ l0 ∧ l0 ≤ 536870912) (h1 : 1 ≤ l1 ∧ l1 ≤ 536870912) : ∀ i, (meet l0 l1 now i).1.Inv ∧ (meet l0 l1 now i).2.Inv
  | 0 => ⟨inv_new h0, inv_new h1⟩
  | i + 1 => by
    have := inv_meet h0 h1 i (now := now)
    exact ⟨inv_take (inv_hello this.1 _) _ _, inv_hello (inv_take this.2 _ _) _⟩
theorem right_hello {life seen xid state : Int} (h1 : 1 ≤ life ∧ life ≤ 536870912) (h2 : 0 ≤ seen ∧ seen ≤ 536870912) (h3 : 1 ≤ xid ∧ xid ≤ 1073741824) (h4 : 0 ≤ state ∧ state ≤ 8) :
    Msg.right ⟨1, life, seen, xid, state, 0, 0, ⟨#[]⟩, 0, 0, false⟩ = true := by
  rw [Msg.right_iff]; exact ⟨h1, h2, .inl ⟨rfl, h3, h4, rfl, rfl, rfl, rfl, rfl, rfl⟩⟩
theorem take_on {c : Con} {life seen xid state now : Int} (h1 : 1 ≤ life ∧ life ≤ 536870912) (h2 : 0 ≤ seen ∧ seen ≤ 536870912) (h3 : 1 ≤ xid ∧ xid ≤ 1073741824) (h4 : 0 ≤ state ∧ state ≤ 8) (hn : 0 ≤ now ∧ now ≤ 1099511627776)
    (hf : life > c.known ∨ (life = c.known ∧ xid > c.hello)) (u : Bool) (hu : ((seen == c.mine) || (c.up && !(c.known != life))) = u) :
    takeC c ⟨1, life, seen, xid, state, 0, 0, ⟨#[]⟩, 0, 0, false⟩ now = { c with at_ := now, known := life, hello := xid, st := state, up := u } := by
  refine (take_hello (moment_yes hn) (right_hello h1 h2 h3 h4) ?_ rfl hu).1
  unfold fits; rw [if_pos rfl]
  simp only [Bool.or_eq_true, Bool.and_eq_true, decide_eq_true_eq, beq_iff_eq]
  exact hf
theorem hello_on {c : Con} {s : Int} (hs : 0 ≤ s ∧ s ≤ 8) (h : c.said < 1073741824) : helloC c s = { c with said := c.said + 1 } ∧ helloM c s = ⟨1, c.mine, c.known, c.said + 1, s, 0, 0, ⟨#[]⟩, 0, 0, false⟩ := hello_yes (helloE_0 (by omega) (by omega))
theorem hello_l1 (mine known hello st said at_ : Int) (up : Bool) {s : Int} (hs : 0 ≤ s ∧ s ≤ 8) (h : said < 1073741824) : helloC ⟨mine, known, hello, st, said, at_, up⟩ s = ⟨mine, known, hello, st, said + 1, at_, up⟩ := (hello_on hs h).1
theorem hello_l2 (mine known hello st said at_ : Int) (up : Bool) {s : Int} (hs : 0 ≤ s ∧ s ≤ 8) (h : said < 1073741824) : helloM ⟨mine, known, hello, st, said, at_, up⟩ s = ⟨1, mine, known, said + 1, s, 0, 0, ⟨#[]⟩, 0, 0, false⟩ := (hello_on hs h).2
theorem take_l (mine known hello st said at_ : Int) (up : Bool) {life seen xid state now : Int} (h1 : 1 ≤ life ∧ life ≤ 536870912) (h2 : 0 ≤ seen ∧ seen ≤ 536870912) (h3 : 1 ≤ xid ∧ xid ≤ 1073741824) (h4 : 0 ≤ state ∧ state ≤ 8) (hn : 0 ≤ now ∧ now ≤ 1099511627776)
    (hf : life > known ∨ (life = known ∧ xid > hello)) (u : Bool) (hu : ((seen == mine) || (up && !(known != life))) = u) :
    takeC ⟨mine, known, hello, st, said, at_, up⟩ ⟨1, life, seen, xid, state, 0, 0, ⟨#[]⟩, 0, 0, false⟩ now = ⟨mine, life, xid, state, said, now, u⟩ := take_on h1 h2 h3 h4 hn hf u hu
theorem meet_2 {l0 l1 now : Int} (h0 : 1 ≤ l0 ∧ l0 ≤ 536870912) (h1 : 1 ≤ l1 ∧ l1 ≤ 536870912) (hn : 0 ≤ now ∧ now ≤ 549755813888) :
    meet l0 l1 now 2 = (⟨l0, l1, 2, 1, 2, now, true⟩, ⟨l1, l0, 2, 1, 2, now, true⟩) := by
  have e1 : meet l0 l1 now 1 = (⟨l0, l1, 1, 1, 1, now, true⟩, ⟨l1, l0, 1, 1, 1, now, false⟩) := by
    simp only [meet, new]
    rw [hello_l1 l0 0 0 0 0 0 false (by decide) (by decide), hello_l2 l0 0 0 0 0 0 false (by decide) (by decide)]
    rw [take_l l1 0 0 0 0 0 false (by omega) (by decide) (by decide) (by decide) (by omega) (.inl (by omega)) false (by rw [Bool.false_and, Bool.or_false, beq_eq_false_iff_ne]; omega)]
    rw [hello_l1 l1 l0 (0 + 1) 1 0 now false (by decide) (by decide), hello_l2 l1 l0 (0 + 1) 1 0 now false (by decide) (by decide)]
    rw [take_l l0 0 0 0 (0 + 1) 0 false (by omega) (by omega) (by decide) (by decide) (by omega) (.inl (by omega)) true (by simp)]
    rfl
  have e2 : meet l0 l1 now 2 = (let p := meet l0 l1 now 1; let a1 := helloC p.1 1; let b1 := takeC p.2 (helloM p.1 1) now; (takeC a1 (helloM b1 1) now, helloC b1 1)) := rfl
  rw [e2, e1]
  simp only
  rw [hello_l1 l0 l1 1 1 1 now true (by decide) (by decide), hello_l2 l0 l1 1 1 1 now true (by decide) (by decide)]
  rw [take_l l1 l0 1 1 1 now false (by omega) (by omega) (by decide) (by decide) (by omega) (.inr ⟨rfl, by decide⟩) true (by simp)]
  rw [hello_l1 l1 l0 (1 + 1) 1 1 now true (by decide) (by decide), hello_l2 l1 l0 (1 + 1) 1 1 now true (by decide) (by decide)]
  rw [take_l l0 l1 1 1 (1 + 1) now true (by omega) (by omega) (by decide) (by decide) (by omega) (.inr ⟨rfl, by decide⟩) true (by simp)]
  rfl
theorem lost_on {c : Con} {now : Int} (hu : c.up = true) (hm : 0 ≤ now ∧ now ≤ 1099511627776) : lost c now = decide (now - c.at_ ≥ 6) := by unfold lost; rw [moment_yes hm, hu]; rfl
section
variable {l0 l1 now : Int} (h0 : 1 ≤ l0 ∧ l0 ≤ 536870912) (h1 : 1 ≤ l1 ∧ l1 ≤ 536870912) (hn : 0 ≤ now ∧ now ≤ 549755813888)
include h0 h1 hn
theorem meet_lost5 : lost (meet l0 l1 now 2).1 (now + 5) = false := by
  rw [meet_2 h0 h1 hn, lost_on rfl (by omega), decide_eq_false_iff_not]; show ¬ now + 5 - now ≥ 6; omega
theorem meet_tick5 : tickC (meet l0 l1 now 2).1 (now + 5) = (meet l0 l1 now 2).1 := by unfold tickC; rw [meet_lost5 h0 h1 hn]; rfl
theorem meet_up : (tickC (meet l0 l1 now 2).1 (now + 5)).up = true := by rw [meet_tick5 h0 h1 hn, meet_2 h0 h1 hn]
theorem meet_up2 : (meet l0 l1 now 2).2.up = true := by rw [meet_2 h0 h1 hn]
theorem meet_lost6 : lost (tickC (meet l0 l1 now 2).1 (now + 5)) (now + 6) = true := by
  rw [meet_tick5 h0 h1 hn, meet_2 h0 h1 hn, lost_on rfl (by omega), decide_eq_true_eq]; show now + 6 - now ≥ 6; omega
theorem meet_down : (tickC (tickC (meet l0 l1 now 2).1 (now + 5)) (now + 6)).up = false := by
  unfold tickC; rw [show (if lost (meet l0 l1 now 2).1 (now + 5) = true then _ else (meet l0 l1 now 2).1) = tickC (meet l0 l1 now 2).1 (now + 5) from rfl, meet_lost6 h0 h1 hn]; rfl
theorem meet_known1 : ((tickC (tickC (meet l0 l1 now 2).1 (now + 5)) (now + 6)).known == l1) = true := by
  rw [beq_iff_eq]
  have e : ∀ c n, (tickC c n).known = c.known := fun c n => by unfold tickC; split <;> rfl
  rw [e, e, meet_2 h0 h1 hn]
theorem meet_known2 : ((meet l0 l1 now 2).2.known == l0) = true := by rw [beq_iff_eq, meet_2 h0 h1 hn]
omit h0 h1 in
theorem meet_e5 : (tickE (now + 5) == 0) = true := by rw [tickE_0 (moment_yes (by omega))]; rfl
omit h0 h1 in
theorem meet_e6 : (tickE (now + 6) == 0) = true := by rw [tickE_0 (moment_yes (by omega))]; rfl
end
end Con
end Go.K

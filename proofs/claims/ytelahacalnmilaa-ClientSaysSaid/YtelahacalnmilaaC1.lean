/- What a contact is, and what it does: plain definitions.
Conditions: none; no program in sight. -/
import Derived.Test.YtelahacalnmilaaM3
namespace Go.K
structure Con where
  mine : Int
  known : Int
  hello : Int
  st : Int
  said : Int
  at_ : Int
  up : Bool
namespace Con
/-- As contact.Contact, and as the reference, lay it. -/
def a (c : Con) : Array Value := #[.int .i64 c.known, .int .i64 c.hello, .int .i64 c.st, .int .i64 c.mine, .int .i64 c.said, .int .i64 c.at_, .bool c.up]
def b (c : Con) : Array Value := #[.int .i64 c.mine, .int .i64 c.known, .int .i64 c.said, .int .i64 c.hello, .int .i64 c.st, .int .i64 c.at_, .bool c.up]
def new (life : Int) : Con := ⟨life, 0, 0, 0, 0, 0, false⟩
/-- What holds of every contact. -/
structure Inv (c : Con) : Prop where
  mine : 1 ≤ c.mine ∧ c.mine ≤ 536870912
  said : 0 ≤ c.said ∧ c.said ≤ 1073741824
  at_ : 0 ≤ c.at_ ∧ c.at_ ≤ 1099511627776
def moment (n : Int) : Bool := decide (n ≥ 0) && decide (n ≤ 1099511627776)
def fits (c : Con) (m : Msg) : Bool :=
  if m.kind = 1 then decide (m.life > c.known) || ((m.life == c.known) && decide (m.xid > c.hello)) else c.up && ((m.life == c.known) && (m.seen == c.mine))
def mark (c : Con) (m : Msg) : Msg := { m with life := c.mine, seen := c.known }
/-- What a take does to it, what it tells, and why not. -/
def takeC (c : Con) (m : Msg) (now : Int) : Con :=
  if moment now && (Msg.right m && fits c m) then
    if m.kind = 1 then { c with at_ := now, known := m.life, hello := m.xid, st := m.state, up := (m.seen == c.mine) || (c.up && !(c.known != m.life)) } else { c with at_ := now }
  else c
def takeF (c : Con) (m : Msg) (now : Int) : Bool := moment now && (Msg.right m && (fits c m && ((m.kind == 1) && (c.known != m.life))))
def takeE (c : Con) (m : Msg) (now : Int) : Int := if moment now then if Msg.right m then if fits c m then 0 else 8 else 2 else 1
def lost (c : Con) (now : Int) : Bool := moment now && (c.up && decide (now - c.at_ ≥ 6))
def tickC (c : Con) (now : Int) : Con := if lost c now then { c with up := false } else c
def tickE (now : Int) : Int := if moment now then 0 else 1
def helloE (c : Con) (state : Int) : Int := if state < 0 ∨ state > 8 then 1 else if c.said ≥ 1073741824 then 3 else 0
def helloC (c : Con) (state : Int) : Con := if helloE c state = 0 then { c with said := c.said + 1 } else c
def helloM (c : Con) (state : Int) : Msg := if helloE c state = 0 then mark c ⟨1, 0, 0, c.said + 1, state, 0, 0, ⟨#[]⟩, 0, 0, false⟩ else ⟨0, 0, 0, 0, 0, 0, 0, ⟨#[]⟩, 0, 0, false⟩

theorem inv_new {life : Int} (h : 1 ≤ life ∧ life ≤ 536870912) : Inv (new life) := ⟨h, by simp [new], by simp [new]⟩
theorem moment_iff (n : Int) : moment n = true ↔ 0 ≤ n ∧ n ≤ 1099511627776 := by simp [moment]
theorem inv_take {c : Con} (h : Inv c) (m : Msg) (now : Int) : Inv (takeC c m now) := by
  unfold takeC
  split
  · rename_i hc
    simp only [Bool.and_eq_true] at hc
    have hn := (moment_iff now).1 hc.1
    split
    · exact ⟨h.mine, h.said, hn⟩
    · exact ⟨h.mine, h.said, hn⟩
  · exact h
theorem inv_tick {c : Con} (h : Inv c) (now : Int) : Inv (tickC c now) := by
  unfold tickC; split
  · exact ⟨h.mine, h.said, h.at_⟩
  · exact h
theorem helloE_lt {c : Con} {s : Int} (h : helloE c s = 0) : c.said < 1073741824 ∧ 0 ≤ s ∧ s ≤ 8 := by
  unfold helloE at h
  split at h
  · cases h
  · split at h
    · cases h
    · omega
theorem inv_hello {c : Con} (h : Inv c) (s : Int) : Inv (helloC c s) := by
  unfold helloC; split
  · rename_i he
    have := helloE_lt he
    exact ⟨h.mine, ⟨by have := h.said; simp only; omega, by simp only; omega⟩, h.at_⟩
  · exact h

theorem helloE_1 {c : Con} {s : Int} (h : s < 0 ∨ s > 8) : helloE c s = 1 := if_pos h
theorem helloE_3 {c : Con} {s : Int} (h : ¬ (s < 0 ∨ s > 8)) (h2 : c.said ≥ 1073741824) : helloE c s = 3 := (if_neg h).trans (if_pos h2)
theorem helloE_0 {c : Con} {s : Int} (h : ¬ (s < 0 ∨ s > 8)) (h2 : ¬ c.said ≥ 1073741824) : helloE c s = 0 := (if_neg h).trans (if_neg h2)
theorem hello_no {c : Con} {s : Int} (h : ¬ helloE c s = 0) : helloC c s = c ∧ helloM c s = ⟨0, 0, 0, 0, 0, 0, 0, ⟨#[]⟩, 0, 0, false⟩ := ⟨if_neg h, if_neg h⟩
theorem hello_yes {c : Con} {s : Int} (h : helloE c s = 0) : helloC c s = { c with said := c.said + 1 } ∧ helloM c s = mark c ⟨1, 0, 0, c.said + 1, s, 0, 0, ⟨#[]⟩, 0, 0, false⟩ := ⟨if_pos h, if_pos h⟩
theorem fresh_eq {c : Con} {m : Msg} (h : fits c m = true) (hk : m.kind = 1) : decide (m.life > c.known) = (c.known != m.life) := by
  unfold fits at h; rw [if_pos hk] at h
  rw [Bool.eq_iff_iff]
  simp only [Bool.or_eq_true, Bool.and_eq_true, decide_eq_true_eq, beq_iff_eq, bne_iff_ne] at h ⊢
  omega
theorem moment_yes {n : Int} (h : 0 ≤ n ∧ n ≤ 1099511627776) : moment n = true := (moment_iff n).2 h
theorem moment_no {n : Int} (h : ¬ (0 ≤ n ∧ n ≤ 1099511627776)) : moment n = false := by
  cases he : moment n with
  | false => rfl
  | true => exact absurd ((moment_iff n).1 he) h
theorem takeE_1 {c : Con} {m : Msg} {now : Int} (h : moment now = false) : takeE c m now = 1 := by unfold takeE; rw [h]; rfl
theorem takeE_2 {c : Con} {m : Msg} {now : Int} (h : moment now = true) (h2 : Msg.right m = false) : takeE c m now = 2 := by unfold takeE; rw [h, h2]; rfl
theorem takeE_8 {c : Con} {m : Msg} {now : Int} (h : moment now = true) (h2 : Msg.right m = true) (h3 : fits c m = false) : takeE c m now = 8 := by unfold takeE; rw [h, h2, h3]; rfl
theorem tickE_1 {now : Int} (h : moment now = false) : tickE now = 1 := by unfold tickE; rw [h]; rfl
theorem tickE_0 {now : Int} (h : moment now = true) : tickE now = 0 := by unfold tickE; rw [h]; rfl
theorem tick_to {c : Con} {now : Int} {u : Bool} (hu : (c.up && !lost c now) = u) : tickC c now = { c with up := u } := by
  subst hu; unfold tickC; split
  · rename_i h; rw [h]; simp
  · rename_i h; rw [Bool.not_eq_true] at h; rw [h]; simp
theorem take_no {c : Con} {m : Msg} {now : Int} (h : (moment now && (Msg.right m && fits c m)) = false) : takeC c m now = c ∧ takeF c m now = false := by
  refine ⟨by unfold takeC; rw [h]; rfl, ?_⟩
  unfold takeF
  cases h1 : moment now <;> cases h2 : Msg.right m <;> cases h3 : fits c m <;> simp_all
theorem take_some {c : Con} {m : Msg} {now : Int} (h1 : moment now = true) (h2 : Msg.right m = true) (h3 : fits c m = true) (hk : ¬ m.kind = 1) : takeC c m now = { c with at_ := now } ∧ takeF c m now = false ∧ takeE c m now = 0 := by
  refine ⟨?_, ?_, ?_⟩
  · unfold takeC; rw [if_pos (by rw [h1, h2, h3]; rfl), if_neg hk]
  · unfold takeF; simp [hk]
  · unfold takeE; rw [h1, h2, h3]; rfl
theorem take_hello {c : Con} {m : Msg} {now : Int} {u : Bool} (h1 : moment now = true) (h2 : Msg.right m = true) (h3 : fits c m = true) (hk : m.kind = 1) (hu : ((m.seen == c.mine) || (c.up && !(c.known != m.life))) = u) :
    takeC c m now = { c with at_ := now, known := m.life, hello := m.xid, st := m.state, up := u } ∧ takeF c m now = (c.known != m.life) ∧ takeE c m now = 0 := by
  refine ⟨?_, ?_, ?_⟩
  · unfold takeC; rw [if_pos (by rw [h1, h2, h3]; rfl), if_pos hk, hu]
  · unfold takeF; simp [h1, h2, h3, hk]
  · unfold takeE; rw [h1, h2, h3]; rfl

structure Stp where
  do_ : Int
  now : Int
  n : Int
  m : Msg
def Stp.cells (s : Stp) : List Value := .int .i64 s.do_ :: .int .i64 s.now :: .int .i64 s.n :: s.m.cells.toList
def step (c : Con) (s : Stp) : Con := if s.do_ = 0 then takeC c s.m s.now else if s.do_ = 1 then tickC c s.now else if s.do_ = 2 then helloC c s.n else c
theorem inv_step {c : Con} (h : Inv c) (s : Stp) : Inv (step c s) := by
  unfold step; split
  · exact inv_take h _ _
  · split
    · exact inv_tick h _
    · split
      · exact inv_hello h _
      · exact h
end Con
end Go.K

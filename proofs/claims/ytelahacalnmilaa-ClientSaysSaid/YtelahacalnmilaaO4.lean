/- Steps of a client under test: plain definitions and facts.
Conditions: none; no program in sight. -/
import Derived.Test.YtelahacalnmilaaO3
set_option linter.unusedSimpArgs false
namespace Go.K
theorem Pc.R.forms {V : Vw} {p : Pc} {hv ov : Value} (h : Pc.R V p hv ov) : (∃ a c, hv = .slice a p.hw.length c) ∧ ∃ a n c, ov = .slice a n c := by
  obtain ⟨a, c, h1, _⟩ := h.hw.form
  obtain ⟨L, _, ho, _⟩ := h.os
  obtain ⟨b, d, h2, _⟩ := ho.form
  exact ⟨⟨a, c, h1⟩, b, L.length, d, h2⟩
theorem Pc.Rk.le {e : TypeId} {V V2 : Vw} {v : Value} : ∀ {l : List Pc}, Pc.Rk e V v l → V.le V2 → Pc.Rk e V2 v l
  | [], h, _ => h
  | _ :: _, ⟨b, hv, ov, h1, h2, h3⟩, hl => ⟨b, hv, ov, h1, hl b _ h2, h3.le hl⟩
structure CStp where
  do_ : Int
  now : Int
  kind : Int
  time : Int
  addr : Int
  p : Pc
  hv : Value
  ov : Value
def CStp.cells (s : CStp) : List Value := .int .i64 s.do_ :: .int .i64 s.now :: .int .i64 s.kind :: .int .i64 s.time :: .int .u32 s.addr :: (s.p.cells s.hv s.ov).toList
theorem CStp.len (s : CStp) : s.cells.length = 15 := rfl
def CStp.dflt : CStp := ⟨0, 0, 0, 0, 0, ⟨0, 0, 0, 0, 0, 0, 0, 0, [], []⟩, .slice none 0 0, .slice none 0 0⟩
namespace Cli
/-- What a server answers. -/
def ans (p : Pc) (kind time addr : Int) : Pc := ⟨2, p.xid, 0, 0, 0, addr, 9, 0, p.hw, [⟨53, [UInt8.ofNat (kind % 256).toNat]⟩, ⟨51, Msg.be 4 (time % 65536)⟩]⟩
def stepC (c : Cli) (s : CStp) (last : Pc) : Cli :=
  if s.do_ = 0 then tickC c s.now else if s.do_ = 1 then takeC c s.p s.now else if s.do_ = 2 then takeC c (ans last s.kind s.time s.addr) s.now else if s.do_ = 3 then relC c s.now else start c
def stepL (c : Cli) (s : CStp) (last : Pc) : Pc := if s.do_ = 0 then (tickP c s.now).headD last else last
variable {n : Int} {c : Cli}
theorem ans_R {V : Vw} {p : Pc} {hv ov d1 d2 : Value} {kind time addr : Int} (hh : Rd V [] 1 hv p.hw.length (p.hw.map byteV)) (hx : 0 ≤ p.xid ∧ p.xid ≤ 4294967295) (ha : 0 ≤ addr ∧ addr ≤ 4294967295) (ho : Rd V [] 2 ov 2 [.int .i64 53, d1, .int .i64 51, d2])
    (hA : Rd V [] 1 d1 1 [.int .u8 (kind % 256)]) (hB : Rd V [] 1 d2 4 ((Msg.be 4 (time % 65536)).map byteV)) : Pc.R V (ans p kind time addr) hv ov :=
  ⟨hh, Pc.Rs2 ho (by rw [byte_row] at hA; exact hA) (by rw [Msg.be_length]; exact hB), hx, ha, (show (0 : Int) ≤ 9 ∧ (9 : Int) ≤ 4294967295 by decide)⟩
theorem few_hw {p : Pc} (h : p.few = true) : p.hw.length < 1000 := by
  simp only [Pc.few, Bool.and_eq_true, decide_eq_true_eq] at h; omega
theorem few_ans {p : Pc} (h : p.few = true) (kind time addr : Int) : (ans p kind time addr).few = true := by
  have h1 := few_hw h
  simp only [Pc.few, Bool.and_eq_true, decide_eq_true_eq]
  refine ⟨Oc.few_iff.2 ⟨(show 2 ≤ 100 by decide), fun o ho => ?_⟩, by show ((p.hw.length : Nat) : Int) < 1000; omega⟩
  simp only [ans, List.mem_cons, List.mem_nil_iff, or_false] at ho
  rcases ho with rfl | rfl
  · show 1 ≤ 1000; decide
  · show (Msg.be 4 _).length ≤ 1000; rw [Msg.be_length]; decide
theorem few_says (h : Inv n c) (k : Int) : (says c k).few = true := by
  have h1 := h.hw
  have h2 := h.name
  simp only [Pc.few, Bool.and_eq_true, decide_eq_true_eq]
  refine ⟨Oc.few_iff.2 ⟨(show 2 ≤ 100 by decide), fun o ho => ?_⟩, by show ((c.hw.length : Nat) : Int) < 1000; omega⟩
  simp only [says, List.mem_cons, List.mem_nil_iff, or_false] at ho
  rcases ho with rfl | rfl
  · show 1 ≤ 1000; decide
  · show c.name.toList.length ≤ 1000; rw [size_list]; omega
theorem few_sayP (h : Inv n c) : (sayP c).few = true := by
  unfold sayP; split
  · exact few_says h _
  · split
    · have h0 := few_says h 3
      have h1 := h.hw
      simp only [Pc.few, Bool.and_eq_true, decide_eq_true_eq] at h0 ⊢
      obtain ⟨h2, h3⟩ := Oc.few_iff.1 h0.1
      refine ⟨Oc.few_iff.2 ⟨(show 4 ≤ 100 by decide), fun o ho => ?_⟩, h0.2⟩
      rcases List.mem_append.1 ho with ho | ho
      · exact h3 o ho
      · simp only [List.mem_cons, List.mem_nil_iff, or_false] at ho
        rcases ho with rfl | rfl <;> (show (Msg.be 4 _).length ≤ 1000; rw [Msg.be_length]; decide)
    · have h0 := few_says h 3
      exact h0
theorem tickP_of (c : Cli) (now : Int) : (tickP c now = [] ∨ tickP c now = [sayP (turn c now)] ∧ Con.moment now = true ∧ (turn c now).due = true) := by
  unfold tickP; split
  · split
    · exact .inl rfl
    · split
      · exact .inr ⟨rfl, ‹_›, ‹_›⟩
      · exact .inl rfl
  · exact .inl rfl
theorem few_tick (h : Inv n c) {now : Int} {p : Pc} (hp : p ∈ tickP c now) : p.few = true := by
  rcases tickP_of c now with e | ⟨e, hm, _⟩
  · rw [e] at hp; cases hp
  · rw [e, List.mem_singleton] at hp; subst hp
    exact few_sayP (h.turn ((Con.moment_iff now).1 hm))
theorem few_os {p : Pc} (h : p.few = true) : p.os.length ≤ 1000000 := by
  simp only [Pc.few, Bool.and_eq_true] at h
  have := (Oc.few_iff.1 h.1).1; omega
theorem rel_os (c : Cli) (now : Int) : (relP c now).os.length ≤ 1000000 := by
  unfold relP; split
  · show 2 ≤ 1000000; decide
  · show 0 ≤ 1000000; decide
theorem few_stepL (h : Inv n c) (s : CStp) {last : Pc} (hl : last.few = true) : (stepL c s last).few = true := by
  unfold stepL; split
  · rcases tickP_of c s.now with e | ⟨e, _⟩
    · rw [e]; exact hl
    · rw [e]; exact few_tick h (now := s.now) (by rw [e]; exact List.mem_singleton_self _)
  · exact hl
theorem Inv.step (h : Inv n c) (s : CStp) {last : Pc} (hs : (0 ≤ s.p.yi ∧ s.p.yi ≤ 4294967295) ∧ (0 ≤ s.p.si ∧ s.p.si ≤ 4294967295)) (ha : 0 ≤ s.addr ∧ s.addr ≤ 4294967295) : Inv (n + 1) (stepC c s last) := by
  unfold stepC; split
  · exact h.tick _
  · split
    · exact (h.take hs.1 hs.2 _).more (by omega)
    · split
      · exact (h.take (p := ans last s.kind s.time s.addr) ha (show (0 : Int) ≤ 9 ∧ (9 : Int) ≤ 4294967295 by decide) _).more (by omega)
      · split
        · exact (h.rel _).more (by omega)
        · exact h.start.more (by omega)
theorem step_same (c : Cli) (s : CStp) (last : Pc) : (stepC c s last).hw = c.hw ∧ (stepC c s last).name = c.name := by
  unfold stepC; split
  · exact tick_same _ _
  · split
    · exact take_same _ _ _
    · split
      · exact take_same _ _ _
      · split
        · exact rel_same _ _
        · exact start_same _
section
variable {s : CStp} {last : Pc}
theorem step_0 (h : s.do_ = 0) : stepC c s last = tickC c s.now ∧ stepL c s last = (tickP c s.now).headD last := ⟨if_pos h, if_pos h⟩
theorem step_1 (h0 : ¬ s.do_ = 0) (h : s.do_ = 1) : stepC c s last = takeC c s.p s.now ∧ stepL c s last = last := ⟨(if_neg h0).trans (if_pos h), if_neg h0⟩
theorem step_2 (h0 : ¬ s.do_ = 0) (h1 : ¬ s.do_ = 1) (h : s.do_ = 2) : stepC c s last = takeC c (ans last s.kind s.time s.addr) s.now ∧ stepL c s last = last := ⟨(if_neg h0).trans ((if_neg h1).trans (if_pos h)), if_neg h0⟩
theorem step_3 (h0 : ¬ s.do_ = 0) (h1 : ¬ s.do_ = 1) (h2 : ¬ s.do_ = 2) (h : s.do_ = 3) : stepC c s last = relC c s.now ∧ stepL c s last = last := ⟨(if_neg h0).trans ((if_neg h1).trans ((if_neg h2).trans (if_pos h))), if_neg h0⟩
theorem step_4 (h0 : ¬ s.do_ = 0) (h1 : ¬ s.do_ = 1) (h2 : ¬ s.do_ = 2) (h3 : ¬ s.do_ = 3) : stepC c s last = start c ∧ stepL c s last = last := ⟨(if_neg h0).trans ((if_neg h1).trans ((if_neg h2).trans (if_neg h3))), if_neg h0⟩
end
end Cli
end Go.K

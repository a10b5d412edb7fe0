/- What a client said, as it lies: facts.
Conditions: none; no program in sight. -/
import Derived.Test.YtelahacalnmilaaO2
import Derived.Test.YtelahacalnmilaaK20
set_option linter.unusedSimpArgs false
namespace Go.K
namespace Pc
theorem Rs2 {V : Vw} {ov v1 v2 : Value} {a b : Int} {x y : List UInt8} (ho : Rd V [] 2 ov 2 [.int .i64 a, v1, .int .i64 b, v2]) (h1 : Rd V [] 1 v1 x.length (x.map byteV)) (h2 : Rd V [] 1 v2 y.length (y.map byteV)) : Rs V ov [⟨a, x⟩, ⟨b, y⟩] :=
  ⟨[⟨a, v1, x⟩, ⟨b, v2, y⟩], rfl, ho, fun o h => by
    simp only [List.mem_cons, List.mem_nil_iff, or_false] at h
    rcases h with rfl | rfl
    · exact h1
    · exact h2⟩
theorem Rs4 {V : Vw} {ov v1 v2 v3 v4 : Value} {a b c d : Int} {x y z w : List UInt8} (ho : Rd V [] 2 ov 4 [.int .i64 a, v1, .int .i64 b, v2, .int .i64 c, v3, .int .i64 d, v4]) (h1 : Rd V [] 1 v1 x.length (x.map byteV)) (h2 : Rd V [] 1 v2 y.length (y.map byteV))
    (h3 : Rd V [] 1 v3 z.length (z.map byteV)) (h4 : Rd V [] 1 v4 w.length (w.map byteV)) : Rs V ov [⟨a, x⟩, ⟨b, y⟩, ⟨c, z⟩, ⟨d, w⟩] :=
  ⟨[⟨a, v1, x⟩, ⟨b, v2, y⟩, ⟨c, v3, z⟩, ⟨d, v4, w⟩], rfl, ho, fun o h => by
    simp only [List.mem_cons, List.mem_nil_iff, or_false] at h
    rcases h with rfl | rfl | rfl | rfl
    · exact h1
    · exact h2
    · exact h3
    · exact h4⟩
theorem Rs0 (V : Vw) : Rs V (.slice none 0 0) [] := ⟨[], rfl, Rd.nil _ _ _, fun _ h => by cases h⟩
/-- A list of no packet, or of one. -/
def Rk (e : TypeId) (V : Vw) (v : Value) : List Pc → Prop
  | [] => v = .slice none 0 0
  | p :: _ => ∃ b hv ov, v = .slice (some ⟨b, 0, none⟩) 1 1 ∧ V b = some (.cells (p.cells hv ov) e (0, 0)) ∧ R V p hv ov
end Pc
theorem byte_row (k : Int) : [Value.int .u8 (k % 256)] = ([UInt8.ofNat (k % 256).toNat] : List UInt8).map byteV := by
  rw [List.map_cons, List.map_nil, byteV_of (by omega)]
theorem size_list (s : ByteArray) : s.toList.length = s.size := by simp [ByteArray.toList_eq]
theorem ne_empty {s : ByteArray} (h : (s.toList == (⟨#[]⟩ : ByteArray).toList) = false) : 1 ≤ s.size := by
  refine Decidable.byContradiction fun hn => ?_
  have h0 : s.toList = [] := List.eq_nil_of_length_eq_zero (by rw [size_list]; omega)
  rw [h0] at h
  simp [ByteArray.toList_eq] at h
theorem of_size {s : ByteArray} (h : 1 ≤ s.size) : (s.toList == (⟨#[]⟩ : ByteArray).toList) = false := by
  rw [beq_eq_false_iff_ne]
  intro e
  have h0 : (⟨#[]⟩ : ByteArray).toList = [] := by simp [ByteArray.toList_eq]
  rw [h0] at e
  have := congrArg List.length e
  rw [size_list] at this
  simp only [List.length_nil] at this
  omega
namespace Cli
/-- What says hands back: a packet, whose options are its own. -/
def Said (e : TypeId) (V : Vw) (c : Cli) (kind : Int) (u : Value) (q : Sg) : Prop := ∃ hv po k d1 d2, u = .agg #[.int .i64 1, .int .u32 c.xid, .int .i64 0, .int .i64 0, .int .u32 0, .int .u32 0, .int .u32 0, .int .u32 0, hv, .slice po 2 k] ∧
  Rd V [] 1 hv c.hw.length (c.hw.map byteV) ∧ Ow e 2 (.slice po 2 k) 2 [.int .i64 53, d1, .int .i64 61, d2] q ∧ Rd V [] 1 d1 1 [.int .u8 (kind % 256)] ∧ Rd V [] 1 d2 c.name.size (c.name.toList.map byteV)
theorem turn_same (c : Cli) (now : Int) : (turn c now).hw = c.hw ∧ (turn c now).name = c.name := by
  have h1 : (turn1 c now).hw = c.hw ∧ (turn1 c now).name = c.name := by unfold turn1; split <;> exact ⟨rfl, rfl⟩
  have h2 : ∀ c : Cli, (turn2 c now).hw = c.hw ∧ (turn2 c now).name = c.name := fun c => by unfold turn2; split <;> exact ⟨rfl, rfl⟩
  have h3 : ∀ c : Cli, (turn3 c now).hw = c.hw ∧ (turn3 c now).name = c.name := fun c => by unfold turn3; split <;> exact ⟨rfl, rfl⟩
  have h4 : ∀ c : Cli, (turn4 c now).hw = c.hw ∧ (turn4 c now).name = c.name := fun c => by
    unfold turn4; split
    · exact ⟨rfl, rfl⟩
    · split
      · exact ⟨rfl, rfl⟩
      · split <;> exact ⟨rfl, rfl⟩
  unfold turn
  exact ⟨(h4 _).1.trans ((h3 _).1.trans ((h2 _).1.trans h1.1)), (h4 _).2.trans ((h3 _).2.trans ((h2 _).2.trans h1.2))⟩
theorem tick_same (c : Cli) (now : Int) : (tickC c now).hw = c.hw ∧ (tickC c now).name = c.name := by
  unfold tickC; split
  · split
    · exact ⟨rfl, rfl⟩
    · split
      · exact turn_same c now
      · exact turn_same c now
  · exact ⟨rfl, rfl⟩
theorem rel_same (c : Cli) (now : Int) : (relC c now).hw = c.hw ∧ (relC c now).name = c.name := by unfold relC; split <;> exact ⟨rfl, rfl⟩
theorem start_same (c : Cli) : (start c).hw = c.hw ∧ (start c).name = c.name := by unfold start; split <;> exact ⟨rfl, rfl⟩
theorem take_same (c : Cli) (p : Pc) (now : Int) : (takeC c p now).hw = c.hw ∧ (takeC c p now).name = c.name := by
  unfold takeC; split
  · split
    · exact ⟨rfl, rfl⟩
    · split
      · exact ⟨rfl, rfl⟩
      · split <;> exact ⟨rfl, rfl⟩
  · exact ⟨rfl, rfl⟩
section
variable {c : Cli} {now : Int}
theorem tick_m (h : Con.moment now = false) : tickC c now = c ∧ tickE now = 1 ∧ tickP c now = [] := by
  refine ⟨if_neg ?_, if_neg ?_, if_neg ?_⟩ <;> rw [h] <;> decide
theorem tick_6 (h : Con.moment now = true) (h6 : c.state = 6) : tickC c now = c ∧ tickE now = 0 ∧ tickP c now = [] := ⟨(if_pos h).trans (if_pos h6), if_pos h, (if_pos h).trans (if_pos h6)⟩
theorem tick_n (h : Con.moment now = true) (h6 : ¬ c.state = 6) (hd : (turn c now).due = false) : tickC c now = turn c now ∧ tickE now = 0 ∧ tickP c now = [] :=
  ⟨(if_pos h).trans ((if_neg h6).trans (if_neg (by rw [hd]; decide))), if_pos h, (if_pos h).trans ((if_neg h6).trans (if_neg (by rw [hd]; decide)))⟩
theorem tick_y (h : Con.moment now = true) (h6 : ¬ c.state = 6) (hd : (turn c now).due = true) : tickC c now = sayC (turn c now) now ∧ tickE now = 0 ∧ tickP c now = [sayP (turn c now)] :=
  ⟨(if_pos h).trans ((if_neg h6).trans (if_pos hd)), if_pos h, (if_pos h).trans ((if_neg h6).trans (if_pos hd))⟩
theorem sayC_y (h : c.state = 2 ∧ c.tries + 1 = 1) : sayC c now = { c with due := false, said := now, tries := c.tries + 1, asks := now } := by unfold sayC; rw [if_pos h]
theorem sayC_n (h : ¬ (c.state = 2 ∧ c.tries + 1 = 1)) : sayC c now = { c with due := false, said := now, tries := c.tries + 1 } := by unfold sayC; rw [if_neg h]
theorem sayP_1 (h : c.state = 1) : sayP c = says c 1 := if_pos h
theorem sayP_2 (h1 : ¬ c.state = 1) (h : c.state = 2) : sayP c = { says c 3 with os := (says c 3).os ++ [⟨50, Msg.be 4 c.addr⟩, ⟨54, Msg.be 4 c.server⟩] } := (if_neg h1).trans (if_pos h)
theorem sayP_d (h1 : ¬ c.state = 1) (h2 : ¬ c.state = 2) : sayP c = { says c 3 with ci := c.addr } := (if_neg h1).trans (if_neg h2)
theorem rel_1 (h : Con.moment now = false) : relE c now = 1 ∧ relC c now = c ∧ relP c now = zeroP := by
  have e : relE c now = 1 := by unfold relE; rw [if_neg (by rw [h]; decide)]
  exact ⟨e, if_neg (by rw [e]; decide), if_neg (by rw [e]; decide)⟩
theorem rel_6 (h : Con.moment now = true) (h2 : holding c = false) : relE c now = 6 ∧ relC c now = c ∧ relP c now = zeroP := by
  have e : relE c now = 6 := by unfold relE; rw [if_pos h, if_neg (by rw [h2]; decide)]
  exact ⟨e, if_neg (by rw [e]; decide), if_neg (by rw [e]; decide)⟩
theorem rel_0 (h : Con.moment now = true) (h2 : holding c = true) : relE c now = 0 ∧ relC c now = { c with xid := (c.xid + 1) % 4294967296, state := 6, addr := 0, server := 0 } ∧ relP c now = { says { c with xid := (c.xid + 1) % 4294967296 } 7 with ci := c.addr } := by
  have e : relE c now = 0 := by unfold relE; rw [if_pos h, if_pos h2]
  exact ⟨e, if_pos e, if_pos e⟩
end
section
variable {c : Cli} {p : Pc} {now : Int}
theorem take_1 (h : Con.moment now = false) : takeE c p now = 1 ∧ takeC c p now = c := ⟨if_neg (by rw [h]; decide), if_neg (fun q => by rw [q.1] at h; cases h)⟩
theorem take_2 (h : Con.moment now = true) (h2 : ¬ (p.right = true ∧ p.op = 2)) : takeE c p now = 2 ∧ takeC c p now = c := ⟨(if_pos h).trans (if_neg h2), if_neg (fun q => h2 ⟨q.2.1, q.2.2.1⟩)⟩
theorem take_8 (h : Con.moment now = true) (h2 : p.right = true) (h3 : p.op = 2) (h4 : old c p) : takeE c p now = 8 ∧ takeC c p now = c := ⟨(if_pos h).trans ((if_pos ⟨h2, h3⟩).trans (if_pos h4)), if_neg (fun q => q.2.2.2 h4)⟩
theorem take_o (h : Con.moment now = true) (h2 : p.right = true) (h3 : p.op = 2) (h4 : ¬ old c p) (h5 : offered c p) : takeE c p now = 0 ∧ takeC c p now = { c with addr := p.yi, server := p.num 54 p.si, state := 2, tries := 0, due := true } :=
  ⟨(if_pos h).trans ((if_pos ⟨h2, h3⟩).trans ((if_neg h4).trans (if_pos (.inl h5)))), (if_pos ⟨h, h2, h3, h4⟩).trans (if_pos h5)⟩
theorem take_a (h : Con.moment now = true) (h2 : p.right = true) (h3 : p.op = 2) (h4 : ¬ old c p) (h5 : ¬ offered c p) (h6 : acked c p) : takeE c p now = 0 ∧ takeC c p now = { c with state := 3, due := false, until_ := c.asks + p.num 51 0, one := c.asks + p.num 58 (p.num 51 0 / 2), two := c.asks + p.num 59 (p.num 51 0 - p.num 51 0 / 8) } :=
  ⟨(if_pos h).trans ((if_pos ⟨h2, h3⟩).trans ((if_neg h4).trans (if_pos (.inr (.inl h6))))), (if_pos ⟨h, h2, h3, h4⟩).trans ((if_neg h5).trans (if_pos h6))⟩
theorem take_k (h : Con.moment now = true) (h2 : p.right = true) (h3 : p.op = 2) (h4 : ¬ old c p) (h5 : ¬ offered c p) (h6 : ¬ acked c p) (h7 : p.kind = 6 ∧ asking c = true) : takeE c p now = 0 ∧ takeC c p now = drop c 0 :=
  ⟨(if_pos h).trans ((if_pos ⟨h2, h3⟩).trans ((if_neg h4).trans (if_pos (.inr (.inr h7))))), (if_pos ⟨h, h2, h3, h4⟩).trans ((if_neg h5).trans ((if_neg h6).trans (if_pos h7)))⟩
theorem take_6 (h : Con.moment now = true) (h2 : p.right = true) (h3 : p.op = 2) (h4 : ¬ old c p) (h5 : ¬ offered c p) (h6 : ¬ acked c p) (h7 : ¬ (p.kind = 6 ∧ asking c = true)) : takeE c p now = 6 ∧ takeC c p now = c :=
  ⟨(if_pos h).trans ((if_pos ⟨h2, h3⟩).trans ((if_neg h4).trans (if_neg (fun q => q.elim h5 (fun q => q.elim h6 h7))))), (if_pos ⟨h, h2, h3, h4⟩).trans ((if_neg h5).trans ((if_neg h6).trans (if_neg h7)))⟩
theorem ask_y (h : c.state = 2 ∨ c.state = 4 ∨ c.state = 5) : asking c = true := by unfold asking; simp only [Bool.or_eq_true, beq_iff_eq]; exact h
theorem ask_n (h : ¬ (c.state = 2 ∨ c.state = 4 ∨ c.state = 5)) : asking c = false := by
  cases e : asking c with
  | false => rfl
  | true => exact absurd (by unfold asking at e; simpa only [Bool.or_eq_true, beq_iff_eq] using e) h
theorem ask_iff : asking c = true ↔ c.state = 2 ∨ c.state = 4 ∨ c.state = 5 := by unfold asking; simp only [Bool.or_eq_true, beq_iff_eq]
end
theorem Said_R {V : Vw} {c : Cli} {kind : Int} {hv ov d1 d2 : Value} (h1 : Rd V [] 1 hv c.hw.length (c.hw.map byteV)) (ho : Rd V [] 2 ov 2 [.int .i64 53, d1, .int .i64 61, d2]) (hA : Rd V [] 1 d1 1 [.int .u8 (kind % 256)]) (hB : Rd V [] 1 d2 c.name.size (c.name.toList.map byteV))
    (hx : 0 ≤ c.xid ∧ c.xid ≤ 4294967295) : Pc.R V (says c kind) hv ov :=
  ⟨h1, Pc.Rs2 ho (by rw [byte_row] at hA; exact hA) (by rw [size_list]; exact hB), hx, (show (0 : Int) ≤ 0 ∧ (0 : Int) ≤ 4294967295 by decide), (show (0 : Int) ≤ 0 ∧ (0 : Int) ≤ 4294967295 by decide)⟩
theorem Said_R4 {V : Vw} {c : Cli} {kind : Int} {hv ov d1 d2 d3 d4 : Value} (h1 : Rd V [] 1 hv c.hw.length (c.hw.map byteV)) (ho : Rd V [] 2 ov 4 [.int .i64 53, d1, .int .i64 61, d2, .int .i64 50, d3, .int .i64 54, d4]) (hA : Rd V [] 1 d1 1 [.int .u8 (kind % 256)]) (hB : Rd V [] 1 d2 c.name.size (c.name.toList.map byteV))
    {a b : Int} (hC : Rd V [] 1 d3 4 ((Msg.be 4 a).map byteV)) (hD : Rd V [] 1 d4 4 ((Msg.be 4 b).map byteV)) (hx : 0 ≤ c.xid ∧ c.xid ≤ 4294967295) : Pc.R V { says c kind with os := (says c kind).os ++ [⟨50, Msg.be 4 a⟩, ⟨54, Msg.be 4 b⟩] } hv ov :=
  ⟨h1, Pc.Rs4 ho (by rw [byte_row] at hA; exact hA) (by rw [size_list]; exact hB) (by rw [Msg.be_length]; exact hC) (by rw [Msg.be_length]; exact hD), hx, (show (0 : Int) ≤ 0 ∧ (0 : Int) ≤ 4294967295 by decide), (show (0 : Int) ≤ 0 ∧ (0 : Int) ≤ 4294967295 by decide)⟩
theorem R_ci {V : Vw} {p : Pc} {hv ov : Value} (h : Pc.R V p hv ov) (a : Int) : Pc.R V { p with ci := a } hv ov := ⟨h.hw, h.os, h.xid, h.yi, h.si⟩
end Cli
theorem lookup_one {b : Nat} {o : Obj} : List.lookup b [(b, o)] = some o := by simp [List.lookup]
end Go.K

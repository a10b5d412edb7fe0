/- What a client keeps, step for step: plain facts for the laws ClientHolds and ClientIdles.
Conditions: none; no program in sight. -/
import Derived.Test.YtelahacalnmilaaO5
set_option linter.unusedSimpArgs false
namespace Go.K
theorem CStp.one {V : Vw} {s : CStp} (h : Pc.R V s.p s.hv s.ov) : (Value.agg s.cells.toArray).cells.toList.all Go.K.one = true := by
  obtain ⟨⟨a, c, h1⟩, b, n, d, h2⟩ := h.forms
  have e : (Value.agg s.cells.toArray).cells.toList = s.cells := rfl
  rw [e]
  unfold CStp.cells Pc.cells
  rw [h1, h2]
  rfl
/-- A law's loop over steps, with a moment. -/
structure Lh where
  c : Cli
  V : Vw
  last : Pc
  hv : Value
  ov : Value
  i : Nat
  now : Int
namespace Cli
/-- What a tick may do of what counts. -/
structure Rel (now : Int) (c t : Cli) : Prop where
  until_ : t.until_ = c.until_
  asks : t.asks = c.asks ∨ t.asks = now
  hold : 3 ≤ t.state ∧ t.state ≤ 5 → 3 ≤ c.state ∧ c.state ≤ 5
  req : t.state = 2 → c.state = 2
  addr : 2 ≤ t.state ∧ t.state ≤ 5 → t.addr = c.addr
  none : ¬ t.addr = 0 → (2 ≤ t.state ∧ t.state ≤ 5) ∨ (t.addr = c.addr ∧ t.state = c.state)
variable {now n : Int} {c t u : Cli}
theorem Rel.rfl' (c : Cli) : Rel now c c := ⟨rfl, .inl rfl, id, id, fun _ => rfl, fun _ => .inr ⟨rfl, rfl⟩⟩
theorem Rel.trans (h : Rel now c t) (k : Rel now t u) : Rel now c u := by
  have a1 := h.until_
  have a2 := h.asks
  have a3 := h.hold
  have a4 := h.req
  have a5 := h.addr
  have a6 := h.none
  have b1 := k.until_
  have b2 := k.asks
  have b3 := k.hold
  have b4 := k.req
  have b5 := k.addr
  have b6 := k.none
  exact ⟨by omega, by omega, by omega, by omega, by omega, by omega⟩
theorem Rel.gone {s : Int} (hs : s = 0 ∨ s = 6) : Rel now c (drop c s) :=
  ⟨rfl, .inl rfl, fun h => by have h1 : 3 ≤ s ∧ s ≤ 5 := h; omega, fun h => by have h1 : s = 2 := h; omega, fun h => by have h1 : 2 ≤ s ∧ s ≤ 5 := h; omega, fun h => absurd rfl h⟩
theorem Rel.anew : Rel now c (anew c) :=
  ⟨rfl, .inl rfl, fun h => by have h1 : (3 : Int) ≤ 1 ∧ (1 : Int) ≤ 5 := h; omega, fun h => by have h1 : (1 : Int) = 2 := h; omega, fun h => by have h1 : (2 : Int) ≤ 1 ∧ (1 : Int) ≤ 5 := h; omega, fun h => absurd rfl h⟩
theorem Rel.turn1 : Rel now c (turn1 c now) := by
  unfold Cli.turn1; split
  · exact Rel.gone (.inl rfl)
  · exact Rel.rfl' c
theorem Rel.turn2 : Rel now c (turn2 c now) := by
  unfold Cli.turn2; split
  · rename_i h
    exact ⟨rfl, .inr rfl, fun _ => by omega, fun h => by have h1 : (4 : Int) = 2 := h; omega, fun _ => rfl, fun _ => .inl (show (2 : Int) ≤ 4 ∧ (4 : Int) ≤ 5 by decide)⟩
  · exact Rel.rfl' c
theorem Rel.turn3 : Rel now c (turn3 c now) := by
  unfold Cli.turn3; split
  · rename_i h
    exact ⟨rfl, .inl rfl, fun _ => by omega, fun h => by have h1 : (5 : Int) = 2 := h; omega, fun _ => rfl, fun _ => .inl (show (2 : Int) ≤ 5 ∧ (5 : Int) ≤ 5 by decide)⟩
  · exact Rel.rfl' c
theorem Rel.due {b : Bool} : Rel now c { c with due := b } := ⟨rfl, .inl rfl, id, id, fun _ => rfl, fun _ => .inr ⟨rfl, rfl⟩⟩
theorem Rel.turn4 : Rel now c (turn4 c now) := by
  unfold Cli.turn4; split
  · exact Rel.anew
  · split
    · exact Rel.rfl' c
    · split
      · exact Rel.due
      · exact Rel.anew
theorem Rel.turn : Rel now c (turn c now) := ((Rel.turn1.trans Rel.turn2).trans Rel.turn3).trans Rel.turn4
theorem Rel.say : Rel now c (sayC c now) := by
  refine ⟨rfl, ?_, id, id, fun _ => rfl, fun _ => .inr ⟨rfl, rfl⟩⟩
  show (if c.state = 2 ∧ c.tries + 1 = 1 then now else c.asks) = c.asks ∨ _
  split
  · exact .inr (by show (if c.state = 2 ∧ c.tries + 1 = 1 then now else c.asks) = now; rw [if_pos (by assumption)])
  · exact .inl rfl
theorem Rel.tick : Rel now c (tickC c now) := by
  unfold Cli.tickC; split
  · split
    · exact Rel.rfl' c
    · split
      · exact Rel.turn.trans Rel.say
      · exact Rel.turn
  · exact Rel.rfl' c
theorem Rel.rel : Rel now c (relC c now) := by
  unfold Cli.relC; split
  · exact ⟨rfl, .inl rfl, fun h => by have h1 : (3 : Int) ≤ 6 ∧ (6 : Int) ≤ 5 := h; omega, fun h => by have h1 : (6 : Int) = 2 := h; omega, fun h => by have h1 : (2 : Int) ≤ 6 ∧ (6 : Int) ≤ 5 := h; omega, fun h => absurd rfl h⟩
  · exact Rel.rfl' c
theorem Rel.start (h : ¬ c.addr = 0 → 2 ≤ c.state ∧ c.state ≤ 5) : Rel now c (start c) := by
  unfold Cli.start; split
  · rename_i h6
    exact ⟨rfl, .inl rfl, fun h => by have h1 : (3 : Int) ≤ 0 ∧ (0 : Int) ≤ 5 := h; omega, fun h => by have h1 : (0 : Int) = 2 := h; omega, fun h => by have h1 : (2 : Int) ≤ 0 ∧ (0 : Int) ≤ 5 := h; omega, fun h2 => by have h3 : ¬ c.addr = 0 := h2; have := h h3; omega⟩
  · exact Rel.rfl' c
/-- Behind a turn it holds nothing that is over. -/
theorem turn_over (h : 3 ≤ (turn c now).state ∧ (turn c now).state ≤ 5) : now ≤ c.until_ := by
  have h1 : 3 ≤ (turn1 c now).state ∧ (turn1 c now).state ≤ 5 → now ≤ (turn1 c now).until_ := by
    unfold Cli.turn1; split
    · intro h; have h1 : (3 : Int) ≤ 0 ∧ (0 : Int) ≤ 5 := h; omega
    · rename_i h; intro h2
      refine Decidable.byContradiction fun h3 => h ⟨hold_y h2, by omega⟩
  have r := ((Rel.turn2 (now := now) (c := Cli.turn1 c now)).trans Rel.turn3).trans Rel.turn4
  have r1 := Rel.turn1 (now := now) (c := c)
  have := r.hold h
  have := h1 this
  rw [r1.until_] at this
  exact this
theorem tick_over (hm : Con.moment now = true) (h : 3 ≤ (tickC c now).state ∧ (tickC c now).state ≤ 5) : now ≤ c.until_ := by
  unfold Cli.tickC at h
  rw [if_pos hm] at h
  split at h
  · rename_i h6; omega
  · split at h
    · exact turn_over h
    · exact turn_over h
/-! ### with a moment that rises -/
structure J (c : Cli) (now : Int) : Prop where
  adr : 2 ≤ c.state ∧ c.state ≤ 5 → ¬ c.addr = 0
  only : ¬ c.addr = 0 → 2 ≤ c.state ∧ c.state ≤ 5
  pos : 3 ≤ c.state ∧ c.state ≤ 5 → 0 < c.until_
  asks : c.asks ≤ now
  now : 0 ≤ now
theorem J.new : J aw0 0 := ⟨fun h => by have h1 : (2 : Int) ≤ 0 ∧ (0 : Int) ≤ 5 := h; omega, fun h => absurd rfl h, fun h => by have h1 : (3 : Int) ≤ 0 ∧ (0 : Int) ≤ 5 := h; omega, Int.le_refl 0, Int.le_refl 0⟩
theorem J.later (h : J c now) {m : Int} (hm : now ≤ m) : J c m := ⟨h.adr, h.only, h.pos, Int.le_trans h.asks hm, Int.le_trans h.now hm⟩
theorem J.rel (h : J c now) {m : Int} (hm : now ≤ m) (r : Rel m c t) : J t m := by
  have a1 := h.adr
  have a2 := h.only
  have a3 := h.pos
  have a4 := h.asks
  have a5 := h.now
  have b1 := r.until_
  have b2 := r.asks
  have b3 := r.hold
  have b4 := r.req
  have b5 := r.addr
  have b6 := r.none
  exact ⟨by omega, by omega, by omega, by omega, by omega⟩
theorem num_ans (p : Pc) (kind time addr o : Int) : (ans p kind time addr).num 51 o = time % 65536 := by
  have h : Oc.fd 51 (ans p kind time addr).os = Msg.be 4 (time % 65536) := rfl
  have h4 : (256 : Int) ^ 4 = 4294967296 := rfl
  unfold Pc.num
  rw [h, if_pos (Msg.be_length _ _), Msg.val_be (by omega) (by omega)]
theorem take_J (h : J c now) {m : Int} (hm : now ≤ m) (p : Pc) (kind time addr : Int) (hi : Inv n c) : J (takeC c (ans p kind time addr) m) m ∧ until0 (takeC c (ans p kind time addr) m) ≤ max (until0 c) (m + time % 65536) := by
  have a1 := h.adr
  have a2 := h.only
  have a3 := h.pos
  have a4 := h.asks
  have a5 := h.now
  have hk := hi.asks
  have keep : J c m ∧ until0 c ≤ max (until0 c) (m + time % 65536) := ⟨h.later hm, by omega⟩
  unfold takeC
  split
  · split
    · rename_i ho
      refine ⟨⟨fun _ => ho.2.2.1, fun _ => (show (2 : Int) ≤ 2 ∧ (2 : Int) ≤ 5 by decide), fun h => by have h1 : (3 : Int) ≤ 2 ∧ (2 : Int) ≤ 5 := h; omega, by show c.asks ≤ m; omega, by omega⟩, ?_⟩
      have : until0 ({ c with addr := (ans p kind time addr).yi, server := (ans p kind time addr).num 54 (ans p kind time addr).si, state := 2, tries := 0, due := true } : Cli) = 0 := if_neg (by rw [hold_n (by show ¬ ((3 : Int) ≤ 2 ∧ (2 : Int) ≤ 5); decide)]; decide)
      rw [this]; omega
    · split
      · rename_i ha
        have hs := ask_iff.1 ha.2.1
        have ht := ha.2.2.2.2
        rw [num_ans] at ht
        refine ⟨⟨fun _ => a1 (by omega), fun _ => (show (2 : Int) ≤ 3 ∧ (3 : Int) ≤ 5 by decide), fun _ => by show 0 < c.asks + _; rw [num_ans]; omega, by show c.asks ≤ m; omega, by omega⟩, ?_⟩
        refine Int.le_trans (Int.le_of_eq (if_pos (hold_y (show (3 : Int) ≤ 3 ∧ (3 : Int) ≤ 5 by decide)))) ?_
        show c.asks + _ ≤ _
        rw [num_ans]; omega
      · split
        · have r := Rel.gone (now := m) (c := c) (s := 0) (.inl rfl)
          refine ⟨h.rel hm r, ?_⟩
          have : until0 (drop c 0) = 0 := if_neg (by rw [hold_n (by show ¬ ((3 : Int) ≤ 0 ∧ (0 : Int) ≤ 5); decide)]; decide)
          rw [this]; omega
        · exact keep
  · exact keep
theorem until_pos (h : J c now) : (decide (until0 c > 0)) = holding c := by
  have a3 := h.pos
  by_cases hh : holding c = true
  · rw [show until0 c = c.until_ from if_pos hh, hh]
    have := a3 (hold_iff.1 hh)
    exact decide_eq_true this
  · rw [show until0 c = 0 from if_neg hh]
    simpa using hh
theorem until_rel (h : J c now) (r : Rel now c t) : until0 t ≤ until0 c := by
  have a3 := h.pos
  by_cases hh : holding t = true
  · have hc := hold_y (r.hold (hold_iff.1 hh))
    rw [show until0 t = t.until_ from if_pos hh, show until0 c = c.until_ from if_pos hc, r.until_]; omega
  · rw [show until0 t = 0 from if_neg hh]
    by_cases hc : holding c = true
    · rw [show until0 c = c.until_ from if_pos hc]; have := a3 (hold_iff.1 hc); omega
    · rw [show until0 c = 0 from if_neg hc]; omega
/-- What the law ClientHolds looks at, behind a step that is no packet of a stranger. -/
theorem J.step (h : J c now) (hi : Inv n c) {s : CStp} {last : Pc} (h1 : ¬ s.do_ = 1) (hm : now ≤ s.now) (hb : s.now ≤ 549755813888) :
    J (stepC c s last) s.now ∧ until0 (stepC c s last) ≤ max (until0 c) (s.now + s.time % 65536) ∧ (s.do_ = 0 → holding (stepC c s last) = true → s.now ≤ until0 (stepC c s last)) := by
  have a5 := h.now
  by_cases h0 : s.do_ = 0
  · rw [(step_0 (c := c) (last := last) h0).1]
    have r := Rel.tick (now := s.now) (c := c)
    refine ⟨h.rel hm r, ?_, fun _ hh => ?_⟩
    · have := until_rel (h.later hm) r; omega
    · have ho := tick_over (Con.moment_yes (by omega)) (hold_iff.1 hh)
      rw [show until0 (tickC c s.now) = (tickC c s.now).until_ from if_pos hh, r.until_]; exact ho
  · by_cases h2 : s.do_ = 2
    · rw [(step_2 (c := c) (last := last) h0 h1 h2).1]
      obtain ⟨k1, k2⟩ := take_J h hm last s.kind s.time s.addr hi
      exact ⟨k1, k2, fun e => absurd e h0⟩
    · by_cases h3 : s.do_ = 3
      · rw [(step_3 (c := c) (last := last) h0 h1 h2 h3).1]
        have r := Rel.rel (now := s.now) (c := c)
        exact ⟨h.rel hm r, by have := until_rel (h.later hm) r; omega, fun e => absurd e h0⟩
      · rw [(step_4 (c := c) (last := last) h0 h1 h2 h3).1]
        have r := Rel.start (now := s.now) h.only
        exact ⟨h.rel hm r, by have := until_rel (h.later hm) r; omega, fun e => absurd e h0⟩
/-! ### whatever is heard -/
def J0 (c : Cli) : Prop := (2 ≤ c.state ∧ c.state ≤ 5 → ¬ c.addr = 0) ∧ (¬ c.addr = 0 → 2 ≤ c.state ∧ c.state ≤ 5)
theorem J0.new : J0 aw0 := ⟨J.new.adr, J.new.only⟩
theorem J0.rel (h : J0 c) (r : Rel now c t) : J0 t := by
  obtain ⟨a1, a2⟩ := h
  have b3 := r.hold
  have b4 := r.req
  have b5 := r.addr
  have b6 := r.none
  exact ⟨by omega, by omega⟩
theorem J0.take (h : J0 c) (p : Pc) (now : Int) : J0 (takeC c p now) := by
  unfold takeC
  split
  · split
    · rename_i ho
      exact ⟨fun _ => ho.2.2.1, fun _ => (show (2 : Int) ≤ 2 ∧ (2 : Int) ≤ 5 by decide)⟩
    · split
      · rename_i ha
        have hs := ask_iff.1 ha.2.1
        exact ⟨fun _ => h.1 (by omega), fun _ => (show (2 : Int) ≤ 3 ∧ (3 : Int) ≤ 5 by decide)⟩
      · split
        · exact h.rel (now := now) (Rel.gone (.inl rfl))
        · exact h
  · exact h
theorem J0.step (h : J0 c) (s : CStp) (last : Pc) : J0 (stepC c s last) := by
  unfold stepC; split
  · exact h.rel (now := s.now) Rel.tick
  · split
    · exact h.take _ _
    · split
      · exact h.take _ _
      · split
        · exact h.rel (now := s.now) Rel.rel
        · exact h.rel (now := s.now) (Rel.start h.2)
/-! ### idle -/
theorem right_ans {p : Pc} (h1 : 1 ≤ p.hw.length) (h2 : p.hw.length ≤ 16) (kind time addr : Int) : (ans p kind time addr).right = true := by
  have o1 : Oc.odd ⟨53, [UInt8.ofNat (kind % 256).toNat]⟩ = false := Oc.odd_no (by decide) (by decide) (show 1 ≤ 255 by decide)
  have o2 : Oc.odd ⟨51, Msg.be 4 (time % 65536)⟩ = false := Oc.odd_no (by decide) (by decide) (by rw [Msg.be_length]; decide)
  have he : Oc.encE (ans p kind time addr).os = 0 := Oc.encE_ok (by simp only [ans, List.any_cons, List.any_nil, Bool.or_false]; rw [o1, o2]; rfl) (by simp only [ans, Oc.tot, Msg.be_length, List.length_cons, List.length_nil]; decide)
  unfold Pc.right
  rw [he]
  show ((((2 : Int) == 1) || ((2 : Int) == 2)) && (decide (1 ≤ p.hw.length) && (decide (p.hw.length ≤ 16) && _))) = true
  rw [decide_eq_true h1, decide_eq_true h2]; rfl
theorem kind_says (c : Cli) (k : Int) (hk : 0 ≤ k ∧ k ≤ 255) : (says c k).kind = k := by
  have h : Oc.fd 53 (says c k).os = [UInt8.ofNat (k % 256).toNat] := rfl
  unfold Pc.kind
  rw [h, if_pos (show ([UInt8.ofNat (k % 256).toNat] : List UInt8).length = 1 from rfl), val_one]
  have : k % 256 = k := by omega
  rw [this]
  have h2 : k.toNat < 256 := by omega
  simp only [UInt8.toNat_ofNat']
  omega
theorem idles (hi : Inv n c) (hj : J0 c) (hm : Con.moment now = true) (hh : holding c = true) : tickP (relC c now) now = [] ∧ tickE now = 0 ∧ takeE (tickC (relC c now) now) (ans (relP c now) 5 5 c.addr) now = 8 ∧
    (takeC (tickC (relC c now) now) (ans (relP c now) 5 5 c.addr) now).state = 6 ∧ (takeC (tickC (relC c now) now) (ans (relP c now) 5 5 c.addr) now).addr = 0 ∧ until0 (takeC (tickC (relC c now) now) (ans (relP c now) 5 5 c.addr) now) = 0 ∧
    tickP (start (takeC (tickC (relC c now) now) (ans (relP c now) 5 5 c.addr) now)) now = [sayP (turn (start (takeC (tickC (relC c now) now) (ans (relP c now) 5 5 c.addr) now)) now)] ∧
    (sayP (turn (start (takeC (tickC (relC c now) now) (ans (relP c now) 5 5 c.addr) now)) now)).kind = 1 ∧ (relP c now).ci = c.addr ∧ ¬ c.addr = 0 ∧ (relP c now).kind = 7 := by
  obtain ⟨e1, e2, e3⟩ := rel_0 hm hh
  have h6 : (relC c now).state = 6 := by rw [e2]
  have ha : (relC c now).addr = 0 := by rw [e2]
  obtain ⟨t1, t2, t3⟩ := tick_6 hm h6
  have hp : (relP c now).hw = c.hw := by rw [e3]; rfl
  have hb := hi.hw
  have hr := right_ans (p := relP c now) (by rw [hp]; exact hb.1) (by rw [hp]; exact hb.2) 5 5 c.addr
  obtain ⟨k1, k2⟩ := take_8 (c := tickC (relC c now) now) (p := ans (relP c now) 5 5 c.addr) hm hr rfl (.inr (.inr (.inr (by rw [t1]; exact h6))))
  have k3 : takeC (tickC (relC c now) now) (ans (relP c now) 5 5 c.addr) now = relC c now := k2.trans t1
  rw [k1, k3]
  have h0 : (start (relC c now)).state = 0 := by unfold start; rw [if_pos h6]
  generalize hs : start (relC c now) = d at *
  have x1 : turn1 d now = d := turn1_n (.inl (hold_n (by omega)))
  have x2 : turn2 d now = d := turn2_n (.inl (by omega))
  have x3 : turn3 d now = d := turn3_n (.inl (by omega))
  have x4 : turn d now = anew d := by unfold turn; rw [x1, x2, x3]; exact turn4_0 h0
  refine ⟨t3, t2, rfl, h6, ha, if_neg (by rw [hold_n (by omega)]; decide), (tick_y hm (by omega) (by rw [x4]; rfl)).2.2, ?_, by rw [e3], hj.1 (by have := hold_iff.1 hh; omega), by rw [e3]; exact kind_says _ 7 (by decide)⟩
  rw [x4, sayP_1 (show (anew d).state = 1 from rfl)]
  exact kind_says _ 1 (by decide)
theorem rel_ne (hm : Con.moment now = true) (h : ¬ relE c now = 0) : holding c = false := by
  cases e : holding c with
  | false => rfl
  | true => exact absurd (rel_0 hm e).1 h
theorem rel_eq (hm : Con.moment now = true) (h : relE c now = 0) : holding c = true := by
  cases e : holding c with
  | false => rw [(rel_6 hm e).1] at h; cases h
  | true => rfl
theorem rel_still (hm : Con.moment now = true) (h : holding c = false) : relE c now = 6 ∧ ¬ (relC c now).state = 3 := by
  refine ⟨(rel_6 hm h).1, ?_⟩
  rw [(rel_6 hm h).2.1]
  intro h3
  rw [hold_y (by omega)] at h; cases h
theorem few_rel (hi : Inv n c) (now : Int) : (relP c now).few = true := by
  unfold relP; split
  · have h0 := few_says (c := { c with xid := (c.xid + 1) % 4294967296 }) ⟨hi.name, hi.hw, hi.state, (show 0 ≤ (c.xid + 1) % 4294967296 ∧ (c.xid + 1) % 4294967296 ≤ 4294967295 by omega), hi.addr, hi.server, hi.until_, hi.one, hi.two, hi.tries, hi.said, hi.asks⟩ 7
    exact h0
  · exact few_zero
end Cli
end Go.K

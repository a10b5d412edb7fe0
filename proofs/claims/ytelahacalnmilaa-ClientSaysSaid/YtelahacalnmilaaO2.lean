/- A client, and what it does: plain definitions and facts.
Conditions: none; no program in sight. -/
import Derived.Test.YtelahacalnmilaaO1
import Derived.Test.YtelahacalnmilaaK14
import Derived.Test.YtelahacalnmilaaK17
set_option linter.unusedSimpArgs false
namespace Go.K
structure Cli where
  name : ByteArray
  hw : List UInt8
  state : Int
  xid : Int
  addr : Int
  server : Int
  until_ : Int
  one : Int
  two : Int
  due : Bool
  tries : Int
  said : Int
  asks : Int
namespace Cli
/-- As the client, and the reference, lay it. -/
def cells (c : Cli) (hv : Value) : Array Value := #[.string c.name, hv, .int .i64 c.state, .int .u32 c.xid, .int .u32 c.addr, .int .u32 c.server, .int .i64 c.until_, .int .i64 c.one, .int .i64 c.two, .bool c.due, .int .i64 c.tries, .int .i64 c.said, .int .i64 c.asks]
/-- What holds of a client; it said no more than n times anew. -/
structure Inv (n : Int) (c : Cli) : Prop where
  name : 1 ≤ c.name.size ∧ c.name.size ≤ 32
  hw : 1 ≤ c.hw.length ∧ c.hw.length ≤ 16
  state : 0 ≤ c.state ∧ c.state ≤ 6
  xid : 0 ≤ c.xid ∧ c.xid ≤ 4294967295
  addr : 0 ≤ c.addr ∧ c.addr ≤ 4294967295
  server : 0 ≤ c.server ∧ c.server ≤ 4294967295
  until_ : 0 ≤ c.until_ ∧ c.until_ ≤ 1103806595072
  one : 0 ≤ c.one ∧ c.one ≤ 1103806595072
  two : 0 ≤ c.two ∧ c.two ≤ 1103806595072
  tries : 0 ≤ c.tries ∧ c.tries ≤ n
  said : 0 ≤ c.said ∧ c.said ≤ 1099511627776
  asks : 0 ≤ c.asks ∧ c.asks ≤ 1099511627776
def new (name : ByteArray) (hw : List UInt8) : Cli := ⟨name, hw, 0, 0, 0, 0, 0, 0, 0, false, 0, 0, 0⟩
def fine (name : ByteArray) (hw : List UInt8) : Prop := 1 ≤ name.size ∧ name.size ≤ 32 ∧ 1 ≤ hw.length ∧ hw.length ≤ 16
def holding (c : Cli) : Bool := decide (c.state ≥ 3) && decide (c.state ≤ 5)
def asking (c : Cli) : Bool := (c.state == 2) || ((c.state == 4) || (c.state == 5))
def drop (c : Cli) (s : Int) : Cli := { c with state := s, addr := 0, server := 0 }
def speak (c : Cli) (s : Int) : Cli := { c with state := s, tries := 0, due := true }
def anew (c : Cli) : Cli := { c with state := 1, addr := 0, server := 0, xid := (c.xid + 1) % 4294967296, tries := 0, due := true }
def late (c : Cli) (now : Int) : Bool := !c.due && decide (now - c.said ≥ 4)
def turn1 (c : Cli) (now : Int) : Cli := if holding c = true ∧ now > c.until_ then drop c 0 else c
def turn2 (c : Cli) (now : Int) : Cli := if c.state = 3 ∧ now ≥ c.one then { c with xid := (c.xid + 1) % 4294967296, state := 4, tries := 0, due := true, asks := now } else c
def turn3 (c : Cli) (now : Int) : Cli := if c.state = 4 ∧ now ≥ c.two then { c with state := 5, due := true } else c
def turn4 (c : Cli) (now : Int) : Cli := if c.state = 0 then anew c else if late c now = false ∨ c.state = 3 then c else if holding c = true ∨ c.tries < 4 then { c with due := true } else anew c
def turn (c : Cli) (now : Int) : Cli := turn4 (turn3 (turn2 (turn1 c now) now) now) now
def until0 (c : Cli) : Int := if holding c = true then c.until_ else 0
def start (c : Cli) : Cli := if c.state = 6 then { c with state := 0 } else c
/-- What it says, of a kind. -/
def says (c : Cli) (k : Int) : Pc := ⟨1, c.xid, 0, 0, 0, 0, 0, 0, c.hw, [⟨53, [UInt8.ofNat (k % 256).toNat]⟩, ⟨61, c.name.toList⟩]⟩
def sayC (c : Cli) (now : Int) : Cli := { c with due := false, said := now, tries := c.tries + 1, asks := if c.state = 2 ∧ c.tries + 1 = 1 then now else c.asks }
def sayP (c : Cli) : Pc := if c.state = 1 then says c 1 else if c.state = 2 then { says c 3 with os := (says c 3).os ++ [⟨50, Msg.be 4 c.addr⟩, ⟨54, Msg.be 4 c.server⟩] } else { says c 3 with ci := c.addr }
def tickC (c : Cli) (now : Int) : Cli := if Con.moment now = true then if c.state = 6 then c else if (turn c now).due = true then sayC (turn c now) now else turn c now else c
def tickE (now : Int) : Int := if Con.moment now = true then 0 else 1
def tickP (c : Cli) (now : Int) : List Pc := if Con.moment now = true then if c.state = 6 then [] else if (turn c now).due = true then [sayP (turn c now)] else [] else []
def relE (c : Cli) (now : Int) : Int := if Con.moment now = true then if holding c = true then 0 else 6 else 1
def relC (c : Cli) (now : Int) : Cli := if relE c now = 0 then { c with xid := (c.xid + 1) % 4294967296, state := 6, addr := 0, server := 0 } else c
def zeroP : Pc := ⟨0, 0, 0, 0, 0, 0, 0, 0, [], []⟩
def relP (c : Cli) (now : Int) : Pc := if relE c now = 0 then { says { c with xid := (c.xid + 1) % 4294967296 } 7 with ci := c.addr } else zeroP
def offered (c : Cli) (p : Pc) : Prop := p.kind = 2 ∧ c.state = 1 ∧ ¬ p.yi = 0 ∧ p.num 51 0 > 0
def acked (c : Cli) (p : Pc) : Prop := p.kind = 5 ∧ asking c = true ∧ (holding c = true ∨ c.tries > 0) ∧ p.yi = c.addr ∧ p.num 51 0 > 0
def old (c : Cli) (p : Pc) : Prop := ¬ p.xid = c.xid ∨ ¬ p.hw = c.hw ∨ c.state = 0 ∨ c.state = 6
instance (c : Cli) (p : Pc) : Decidable (offered c p) := by unfold offered; infer_instance
instance (c : Cli) (p : Pc) : Decidable (acked c p) := by unfold acked; infer_instance
instance (c : Cli) (p : Pc) : Decidable (old c p) := by unfold old; infer_instance
def heard (c : Cli) (p : Pc) (now : Int) : Prop := Con.moment now = true ∧ p.right = true ∧ p.op = 2 ∧ ¬ old c p
instance (c : Cli) (p : Pc) (now : Int) : Decidable (heard c p now) := by unfold heard; infer_instance
def takeE (c : Cli) (p : Pc) (now : Int) : Int := if Con.moment now = true then if p.right = true ∧ p.op = 2 then if old c p then 8 else if offered c p ∨ acked c p ∨ (p.kind = 6 ∧ asking c = true) then 0 else 6 else 2 else 1
def takeC (c : Cli) (p : Pc) (now : Int) : Cli := if heard c p now then
    if offered c p then { c with addr := p.yi, server := p.num 54 p.si, state := 2, tries := 0, due := true }
    else if acked c p then { c with state := 3, due := false, until_ := c.asks + p.num 51 0, one := c.asks + p.num 58 (p.num 51 0 / 2), two := c.asks + p.num 59 (p.num 51 0 - p.num 51 0 / 8) }
    else if p.kind = 6 ∧ asking c = true then drop c 0 else c
  else c
/-! ### what holds stays -/
variable {n : Int} {c : Cli}
theorem Inv.new {name : ByteArray} {hw : List UInt8} (h : fine name hw) : Inv 0 (new name hw) :=
  ⟨⟨h.1, h.2.1⟩, ⟨h.2.2.1, h.2.2.2⟩, (show (0 : Int) ≤ 0 ∧ (0 : Int) ≤ 6 by decide), (show (0 : Int) ≤ 0 ∧ (0 : Int) ≤ 4294967295 by decide), (show (0 : Int) ≤ 0 ∧ (0 : Int) ≤ 4294967295 by decide), (show (0 : Int) ≤ 0 ∧ (0 : Int) ≤ 4294967295 by decide), (show (0 : Int) ≤ 0 ∧ (0 : Int) ≤ 1103806595072 by decide), (show (0 : Int) ≤ 0 ∧ (0 : Int) ≤ 1103806595072 by decide), (show (0 : Int) ≤ 0 ∧ (0 : Int) ≤ 1103806595072 by decide), (show (0 : Int) ≤ 0 ∧ (0 : Int) ≤ 0 by decide), (show (0 : Int) ≤ 0 ∧ (0 : Int) ≤ 1099511627776 by decide), (show (0 : Int) ≤ 0 ∧ (0 : Int) ≤ 1099511627776 by decide)⟩
theorem Inv.more (h : Inv n c) {m : Int} (hm : n ≤ m) : Inv m c := ⟨h.name, h.hw, h.state, h.xid, h.addr, h.server, h.until_, h.one, h.two, ⟨h.tries.1, by have := h.tries.2; omega⟩, h.said, h.asks⟩
theorem Inv.pos (h : Inv n c) : 0 ≤ n := by have := h.tries; omega
theorem Inv.drop (h : Inv n c) {s : Int} (hs : 0 ≤ s ∧ s ≤ 6) : Inv n (drop c s) := ⟨h.name, h.hw, hs, h.xid, (show (0 : Int) ≤ 0 ∧ (0 : Int) ≤ 4294967295 by decide), (show (0 : Int) ≤ 0 ∧ (0 : Int) ≤ 4294967295 by decide), h.until_, h.one, h.two, h.tries, h.said, h.asks⟩
theorem Inv.anew (h : Inv n c) : Inv n (anew c) := ⟨h.name, h.hw, (show (0 : Int) ≤ 1 ∧ (1 : Int) ≤ 6 by decide), (show 0 ≤ (c.xid + 1) % 4294967296 ∧ (c.xid + 1) % 4294967296 ≤ 4294967295 by omega), (show (0 : Int) ≤ 0 ∧ (0 : Int) ≤ 4294967295 by decide), (show (0 : Int) ≤ 0 ∧ (0 : Int) ≤ 4294967295 by decide), h.until_, h.one, h.two, ⟨Int.le_refl 0, h.pos⟩, h.said, h.asks⟩
theorem Inv.turn1 (h : Inv n c) (now : Int) : Inv n (turn1 c now) := by
  unfold Cli.turn1; split
  · exact h.drop (by decide)
  · exact h
theorem Inv.turn2 (h : Inv n c) {now : Int} (hn : 0 ≤ now ∧ now ≤ 1099511627776) : Inv n (turn2 c now) := by
  unfold Cli.turn2; split
  · exact ⟨h.name, h.hw, by show (0 : Int) ≤ 4 ∧ (4 : Int) ≤ 6; decide, (show 0 ≤ (c.xid + 1) % 4294967296 ∧ (c.xid + 1) % 4294967296 ≤ 4294967295 by omega), h.addr, h.server, h.until_, h.one, h.two, ⟨Int.le_refl 0, h.pos⟩, h.said, hn⟩
  · exact h
theorem Inv.turn3 (h : Inv n c) (now : Int) : Inv n (turn3 c now) := by
  unfold Cli.turn3; split
  · exact ⟨h.name, h.hw, by show (0 : Int) ≤ 5 ∧ (5 : Int) ≤ 6; decide, h.xid, h.addr, h.server, h.until_, h.one, h.two, h.tries, h.said, h.asks⟩
  · exact h
theorem Inv.turn4 (h : Inv n c) (now : Int) : Inv n (turn4 c now) := by
  unfold Cli.turn4; split
  · exact h.anew
  · split
    · exact h
    · split
      · exact ⟨h.name, h.hw, h.state, h.xid, h.addr, h.server, h.until_, h.one, h.two, h.tries, h.said, h.asks⟩
      · exact h.anew
theorem Inv.turn (h : Inv n c) {now : Int} (hn : 0 ≤ now ∧ now ≤ 1099511627776) : Inv n (turn c now) := ((((h.turn1 now).turn2 hn).turn3 now).turn4 now)
theorem Inv.say (h : Inv n c) {now : Int} (hn : 0 ≤ now ∧ now ≤ 1099511627776) : Inv (n + 1) (sayC c now) := by
  refine ⟨h.name, h.hw, h.state, h.xid, h.addr, h.server, h.until_, h.one, h.two, ?_, hn, ?_⟩
  · have := h.tries; show 0 ≤ c.tries + 1 ∧ c.tries + 1 ≤ n + 1; omega
  · show 0 ≤ (if c.state = 2 ∧ c.tries + 1 = 1 then now else c.asks) ∧ (if c.state = 2 ∧ c.tries + 1 = 1 then now else c.asks) ≤ _
    split
    · exact hn
    · exact h.asks
theorem Inv.tick (h : Inv n c) (now : Int) : Inv (n + 1) (tickC c now) := by
  unfold Cli.tickC; split
  · rename_i hm
    have hn := (Con.moment_iff now).1 hm
    split
    · exact h.more (by omega)
    · split
      · exact (h.turn hn).say hn
      · exact (h.turn hn).more (by omega)
  · exact h.more (by omega)
theorem Inv.rel (h : Inv n c) (now : Int) : Inv n (relC c now) := by
  unfold Cli.relC; split
  · exact ⟨h.name, h.hw, by show (0 : Int) ≤ 6 ∧ (6 : Int) ≤ 6; decide, (show 0 ≤ (c.xid + 1) % 4294967296 ∧ (c.xid + 1) % 4294967296 ≤ 4294967295 by omega), (show (0 : Int) ≤ 0 ∧ (0 : Int) ≤ 4294967295 by decide), (show (0 : Int) ≤ 0 ∧ (0 : Int) ≤ 4294967295 by decide), h.until_, h.one, h.two, h.tries, h.said, h.asks⟩
  · exact h
theorem Inv.start (h : Inv n c) : Inv n (start c) := by
  unfold Cli.start; split
  · exact ⟨h.name, h.hw, by show (0 : Int) ≤ 0 ∧ (0 : Int) ≤ 6; decide, h.xid, h.addr, h.server, h.until_, h.one, h.two, h.tries, h.said, h.asks⟩
  · exact h
theorem num_range (p : Pc) (k : Int) {o : Int} {m : Int} (ho : 0 ≤ o ∧ o ≤ m) (hm : 4294967295 ≤ m) : 0 ≤ p.num k o ∧ p.num k o ≤ m := by
  unfold Pc.num; split
  · rename_i h
    have := val_bounds (Oc.fd k p.os)
    rw [h] at this
    have h4 : (256 : Int) ^ 4 = 4294967296 := rfl
    omega
  · exact ho
theorem num_u32 (p : Pc) (k : Int) {o : Int} (ho : 0 ≤ o ∧ o ≤ 4294967295) : 0 ≤ p.num k o ∧ p.num k o ≤ 4294967295 := num_range p k ho (Int.le_refl _)
theorem Inv.take (h : Inv n c) {p : Pc} (hy : 0 ≤ p.yi ∧ p.yi ≤ 4294967295) (hs : 0 ≤ p.si ∧ p.si ≤ 4294967295) (now : Int) : Inv n (takeC c p now) := by
  unfold Cli.takeC
  have ht := num_u32 p 51 (o := 0) (by decide)
  have ha := h.asks
  split
  · split
    · exact ⟨h.name, h.hw, by show (0 : Int) ≤ 2 ∧ (2 : Int) ≤ 6; decide, h.xid, hy, num_u32 p 54 hs, h.until_, h.one, h.two, ⟨Int.le_refl 0, h.pos⟩, h.said, h.asks⟩
    · split
      · have h8 := num_u32 p 58 (o := p.num 51 0 / 2) (by omega)
        have h9 := num_u32 p 59 (o := p.num 51 0 - p.num 51 0 / 8) (by omega)
        exact ⟨h.name, h.hw, by show (0 : Int) ≤ 3 ∧ (3 : Int) ≤ 6; decide, h.xid, h.addr, h.server, (show 0 ≤ c.asks + p.num 51 0 ∧ c.asks + p.num 51 0 ≤ 1103806595072 by omega), (show 0 ≤ c.asks + p.num 58 (p.num 51 0 / 2) ∧ c.asks + p.num 58 (p.num 51 0 / 2) ≤ 1103806595072 by omega), (show 0 ≤ c.asks + p.num 59 (p.num 51 0 - p.num 51 0 / 8) ∧ c.asks + p.num 59 (p.num 51 0 - p.num 51 0 / 8) ≤ 1103806595072 by omega), h.tries, h.said, h.asks⟩
      · split
        · exact h.drop (by decide)
        · exact h
  · exact h
/-! ### the branches -/
theorem turn1_y {now : Int} (h1 : holding c = true) (h2 : now > c.until_) : turn1 c now = drop c 0 := if_pos ⟨h1, h2⟩
theorem turn1_n {now : Int} (h : holding c = false ∨ ¬ now > c.until_) : turn1 c now = c := if_neg (fun q => h.elim (fun e => by rw [q.1] at e; cases e) (fun e => e q.2))
theorem turn2_y {now : Int} (h1 : c.state = 3) (h2 : now ≥ c.one) : turn2 c now = { c with xid := (c.xid + 1) % 4294967296, state := 4, tries := 0, due := true, asks := now } := if_pos ⟨h1, h2⟩
theorem turn2_n {now : Int} (h : ¬ c.state = 3 ∨ ¬ now ≥ c.one) : turn2 c now = c := if_neg (fun q => h.elim (fun e => e q.1) (fun e => e q.2))
theorem turn3_y {now : Int} (h1 : c.state = 4) (h2 : now ≥ c.two) : turn3 c now = { c with state := 5, due := true } := if_pos ⟨h1, h2⟩
theorem turn3_n {now : Int} (h : ¬ c.state = 4 ∨ ¬ now ≥ c.two) : turn3 c now = c := if_neg (fun q => h.elim (fun e => e q.1) (fun e => e q.2))
theorem turn4_0 {now : Int} (h : c.state = 0) : turn4 c now = anew c := if_pos h
theorem turn4_n {now : Int} (h : ¬ c.state = 0) (h2 : late c now = false ∨ c.state = 3) : turn4 c now = c := (if_neg h).trans (if_pos h2)
theorem turn4_d {now : Int} (h : ¬ c.state = 0) (h2 : late c now = true) (h3 : ¬ c.state = 3) (h4 : holding c = true ∨ c.tries < 4) : turn4 c now = { c with due := true } :=
  (if_neg h).trans ((if_neg (fun q => q.elim (fun e => by rw [h2] at e; cases e) h3)).trans (if_pos h4))
theorem turn4_a {now : Int} (h : ¬ c.state = 0) (h2 : late c now = true) (h3 : ¬ c.state = 3) (h4 : holding c = false) (h5 : ¬ c.tries < 4) : turn4 c now = anew c :=
  (if_neg h).trans ((if_neg (fun q => q.elim (fun e => by rw [h2] at e; cases e) h3)).trans (if_neg (fun q => q.elim (fun e => by rw [h4] at e; cases e) h5)))
theorem hold_iff : holding c = true ↔ 3 ≤ c.state ∧ c.state ≤ 5 := by unfold holding; simp
theorem hold_y (h : 3 ≤ c.state ∧ c.state ≤ 5) : holding c = true := hold_iff.2 h
theorem hold_n (h : ¬ (3 ≤ c.state ∧ c.state ≤ 5)) : holding c = false := by
  cases e : holding c with
  | false => rfl
  | true => exact absurd (hold_iff.1 e) h
theorem turn1_ne {now : Int} (h : ¬ c.state = 6) : ¬ (turn1 c now).state = 6 := by
  unfold turn1; split
  · show ¬ (0 : Int) = 6; decide
  · exact h
theorem turn2_ne {now : Int} (h : ¬ c.state = 6) : ¬ (turn2 c now).state = 6 := by
  unfold turn2; split
  · show ¬ (4 : Int) = 6; decide
  · exact h
theorem turn3_ne {now : Int} (h : ¬ c.state = 6) : ¬ (turn3 c now).state = 6 := by
  unfold turn3; split
  · show ¬ (5 : Int) = 6; decide
  · exact h
theorem wrap_u32m (n : Int) : IntKind.u32.wrap n = n % 4294967296 := by
  have e1 : (2 ^ IntKind.u32.bits : Int) = 4294967296 := rfl
  simp only [IntKind.wrap, e1, show IntKind.u32.signed = false from rfl, Bool.false_and, Bool.false_eq_true, if_false]
end Cli
end Go.K

/- A client, and what it does: plain definitions and facts.
Conditions: none; no program in sight. -/
import Derived.Test.YtfgblingojgafaaGreatKD
import Derived.Test.YtfgblingojgafaaGreatSA
import Derived.Test.YtfgblingojgafaaGreatRA
set_option linter.unusedSimpArgs false
set_option linter.unusedVariables false
set_option linter.unusedSectionVars false
namespace Go.K
structure Cli where
  name : ByteArray
  hw : List UInt8
  state : Int
  xid : Int
  addr : Int
  server : Int
  until_ : Int
  one : Int
  two : Int
  due : Bool
  tries : Int
  said : Int
  asks : Int
namespace Cli
def cells (c : Cli) (hv : Value) : Array Value := #[.string c.name,hv,.int .i64 c.state,.int .u32 c.xid,.int .u32 c.addr,.int .u32 c.server,.int .i64 c.until_,.int .i64 c.one,.int .i64 c.two,.bool c.due,.int .i64 c.tries,.int .i64 c.said,.int .i64 c.asks]
structure Inv (n : Int) (c : Cli) : Prop where
  name : 1 <= c.name.size /\ c.name.size <= 32
  hw : 1 <= c.hw.length /\ c.hw.length <= 16
  state : 0 <= c.state /\ c.state <= 6
  xid : 0 <= c.xid /\ c.xid <= 4294967295
  addr : 0 <= c.addr /\ c.addr <= 4294967295
  server : 0 <= c.server /\ c.server <= 4294967295
  until_ : 0 <= c.until_ /\ c.until_ <= 1103806595072
  one : 0 <= c.one /\ c.one <= 1103806595072
  two : 0 <= c.two /\ c.two <= 1103806595072
  tries : 0 <= c.tries /\ c.tries <= n
  said : 0 <= c.said /\ c.said <= 1099511627776
  asks : 0 <= c.asks /\ c.asks <= 1099511627776
def new (name : ByteArray) (hw : List UInt8) : Cli := ⟨name,hw,0,0,0,0,0,0,0,false,0,0,0⟩
def fine (name : ByteArray) (hw : List UInt8) : Prop := 1 <= name.size /\ name.size <= 32 /\ 1 <= hw.length /\ hw.length <= 16
def holding (c : Cli) : Bool := decide (c.state >= 3) && decide (c.state <= 5)
def asking (c : Cli) : Bool := (c.state == 2) || ((c.state == 4) || (c.state == 5))
def drop (c : Cli) (s : Int) : Cli := { c with state := s,addr := 0,server := 0 }
def anew (c : Cli) : Cli := { c with state := 1,addr := 0,server := 0,xid := (c.xid + 1) % 4294967296,tries := 0,due := true }
def late (c : Cli) (now : Int) : Bool := !c.due && decide (now - c.said >= 4)
def turn1 (c : Cli) (now : Int) : Cli := if holding c = true /\ now > c.until_ then drop c 0 else c
def turn2 (c : Cli) (now : Int) : Cli := if c.state = 3 /\ now >= c.one then { c with xid := (c.xid + 1) % 4294967296,state := 4,tries := 0,due := true,asks := now } else c
def turn3 (c : Cli) (now : Int) : Cli := if c.state = 4 /\ now >= c.two then { c with state := 5,due := true } else c
def turn4 (c : Cli) (now : Int) : Cli := if c.state = 0 then anew c else if late c now = false \/ c.state = 3 then c else if holding c = true \/ c.tries < 4 then { c with due := true } else anew c
def turn (c : Cli) (now : Int) : Cli := turn4 (turn3 (turn2 (turn1 c now) now) now) now
def until0 (c : Cli) : Int := if holding c = true then c.until_ else 0
def start (c : Cli) : Cli := if c.state = 6 then { c with state := 0 } else c
def says (c : Cli) (k : Int) : Pc := ⟨1,c.xid,0,0,0,0,0,0,c.hw,[⟨53,[UInt8.ofNat (k % 256).toNat]⟩,⟨61,c.name.toList⟩]⟩
def sayC (c : Cli) (now : Int) : Cli := { c with due := false,said := now,tries := c.tries + 1,asks := if c.state = 2 /\ c.tries + 1 = 1 then now else c.asks }
def sayP (c : Cli) : Pc := if c.state = 1 then says c 1 else if c.state = 2 then { says c 3 with os := (says c 3).os ++ [⟨50,Msg.be 4 c.addr⟩,⟨54,Msg.be 4 c.server⟩] } else { says c 3 with ci := c.addr }
def tickC (c : Cli) (now : Int) : Cli := if Con.moment now = true then if c.state = 6 then c else if (turn c now).due = true then sayC (turn c now) now else turn c now else c
def tickP (c : Cli) (now : Int) : List Pc := if Con.moment now = true then if c.state = 6 then [] else if (turn c now).due = true then [sayP (turn c now)] else [] else []
def relE (c : Cli) (now : Int) : Int := if Con.moment now = true then if holding c = true then 0 else 6 else 1
def relC (c : Cli) (now : Int) : Cli := if relE c now = 0 then { c with xid := (c.xid + 1) % 4294967296,state := 6,addr := 0,server := 0 } else c
def zeroP : Pc := ⟨0,0,0,0,0,0,0,0,[],[]⟩
def offered (c : Cli) (p : Pc) : Prop := p.kind = 2 /\ c.state = 1 /\ ¬ p.yi = 0 /\ p.num 51 0 > 0
def acked (c : Cli) (p : Pc) : Prop := p.kind = 5 /\ asking c = true /\ (holding c = true \/ c.tries > 0) /\ p.yi = c.addr /\ p.num 51 0 > 0
def old (c : Cli) (p : Pc) : Prop := ¬ p.xid = c.xid \/ ¬ p.hw = c.hw \/ c.state = 0 \/ c.state = 6
instance (c : Cli) (p : Pc) : Decidable (offered c p) := by unfold offered; infer_instance
instance (c : Cli) (p : Pc) : Decidable (acked c p) := by unfold acked; infer_instance
instance (c : Cli) (p : Pc) : Decidable (old c p) := by unfold old; infer_instance
def heard (c : Cli) (p : Pc) (now : Int) : Prop := Con.moment now = true /\ p.right = true /\ p.op = 2 /\ ¬ old c p
instance (c : Cli) (p : Pc) (now : Int) : Decidable (heard c p now) := by unfold heard; infer_instance
def takeC (c : Cli) (p : Pc) (now : Int) : Cli := if heard c p now then
    if offered c p then { c with addr := p.yi,server := p.num 54 p.si,state := 2,tries := 0,due := true }
    else if acked c p then { c with state := 3,due := false,until_ := c.asks + p.num 51 0,one := c.asks + p.num 58 (p.num 51 0 / 2),two := c.asks + p.num 59 (p.num 51 0 - p.num 51 0 / 8) }
    else if p.kind = 6 /\ asking c = true then drop c 0 else c
  else c
variable {n : Int} {c : Cli}
theorem Inv.new {name : ByteArray} {hw : List UInt8} (h : fine name hw) : Inv 0 (new name hw) :=
  ⟨⟨h.1,h.2.1⟩,⟨h.2.2.1,h.2.2.2⟩,(show (0 : Int) <= 0 /\ (0 : Int) <= 6 by decide),(show (0 : Int) <= 0 /\ (0 : Int) <= 4294967295 by decide),(show (0 : Int) <= 0 /\ (0 : Int) <= 4294967295 by decide),(show (0 : Int) <= 0 /\ (0 : Int) <= 4294967295 by decide),(show (0 : Int) <= 0 /\ (0 : Int) <= 1103806595072 by decide),(show (0 : Int) <= 0 /\ (0 : Int) <= 1103806595072 by decide),(show (0 : Int) <= 0 /\ (0 : Int) <= 1103806595072 by decide),(show (0 : Int) <= 0 /\ (0 : Int) <= 0 by decide),(show (0 : Int) <= 0 /\ (0 : Int) <= 1099511627776 by decide),(show (0 : Int) <= 0 /\ (0 : Int) <= 1099511627776 by decide)⟩
theorem Inv.more (h : Inv n c) {m : Int} (hm : n <= m) : Inv m c := ⟨h.name,h.hw,h.state,h.xid,h.addr,h.server,h.until_,h.one,h.two,⟨h.tries.1,by have := h.tries.2; omega⟩,h.said,h.asks⟩
theorem Inv.pos (h : Inv n c) : 0 <= n := by have := h.tries; omega
theorem Inv.drop (h : Inv n c) {s : Int} (hs : 0 <= s /\ s <= 6) : Inv n (drop c s) := ⟨h.name,h.hw,hs,h.xid,(show (0 : Int) <= 0 /\ (0 : Int) <= 4294967295 by decide),(show (0 : Int) <= 0 /\ (0 : Int) <= 4294967295 by decide),h.until_,h.one,h.two,h.tries,h.said,h.asks⟩
theorem Inv.anew (h : Inv n c) : Inv n (anew c) := ⟨h.name,h.hw,(show (0 : Int) <= 1 /\ (1 : Int) <= 6 by decide),(show 0 <= (c.xid + 1) % 4294967296 /\ (c.xid + 1) % 4294967296 <= 4294967295 by omega),(show (0 : Int) <= 0 /\ (0 : Int) <= 4294967295 by decide),(show (0 : Int) <= 0 /\ (0 : Int) <= 4294967295 by decide),h.until_,h.one,h.two,⟨Int.le_refl 0,h.pos⟩,h.said,h.asks⟩
theorem Inv.turn1 (h : Inv n c) (now : Int) : Inv n (turn1 c now) := by
  unfold Cli.turn1; split
  · exact h.drop (by decide)
  · exact h
theorem Inv.turn2 (h : Inv n c) {now : Int} (hn : 0 <= now /\ now <= 1099511627776) : Inv n (turn2 c now) := by
  unfold Cli.turn2; split
  · exact ⟨h.name,h.hw,by show (0 : Int) <= 4 /\ (4 : Int) <= 6; decide,(show 0 <= (c.xid + 1) % 4294967296 /\ (c.xid + 1) % 4294967296 <= 4294967295 by omega),h.addr,h.server,h.until_,h.one,h.two,⟨Int.le_refl 0,h.pos⟩,h.said,hn⟩
  · exact h
theorem Inv.turn3 (h : Inv n c) (now : Int) : Inv n (turn3 c now) := by
  unfold Cli.turn3; split
  · exact ⟨h.name,h.hw,by show (0 : Int) <= 5 /\ (5 : Int) <= 6; decide,h.xid,h.addr,h.server,h.until_,h.one,h.two,h.tries,h.said,h.asks⟩
  · exact h
theorem Inv.turn4 (h : Inv n c) (now : Int) : Inv n (turn4 c now) := by
  unfold Cli.turn4; split
  · exact h.anew
  · split
    · exact h
    · split
      · exact ⟨h.name,h.hw,h.state,h.xid,h.addr,h.server,h.until_,h.one,h.two,h.tries,h.said,h.asks⟩
      · exact h.anew
theorem Inv.turn (h : Inv n c) {now : Int} (hn : 0 <= now /\ now <= 1099511627776) : Inv n (turn c now) := ((((h.turn1 now).turn2 hn).turn3 now).turn4 now)
theorem Inv.say (h : Inv n c) {now : Int} (hn : 0 <= now /\ now <= 1099511627776) : Inv (n + 1) (sayC c now) := by
  refine ⟨h.name,h.hw,h.state,h.xid,h.addr,h.server,h.until_,h.one,h.two,?_,hn,?_⟩
  · have := h.tries; show 0 <= c.tries + 1 /\ c.tries + 1 <= n + 1; omega
  · show 0 <= (if c.state = 2 /\ c.tries + 1 = 1 then now else c.asks) /\ (if c.state = 2 /\ c.tries + 1 = 1 then now else c.asks) <= _
    split
    · exact hn
    · exact h.asks
theorem Inv.tick (h : Inv n c) (now : Int) : Inv (n + 1) (tickC c now) := by
  unfold Cli.tickC; split
  · rename_i hm
    have hn := (Con.moment_iff now).1 hm
    split
    · exact h.more (by omega)
    · split
      · exact (h.turn hn).say hn
      · exact (h.turn hn).more (by omega)
  · exact h.more (by omega)
theorem Inv.rel (h : Inv n c) (now : Int) : Inv n (relC c now) := by
  unfold Cli.relC; split
  · exact ⟨h.name,h.hw,by show (0 : Int) <= 6 /\ (6 : Int) <= 6; decide,(show 0 <= (c.xid + 1) % 4294967296 /\ (c.xid + 1) % 4294967296 <= 4294967295 by omega),(show (0 : Int) <= 0 /\ (0 : Int) <= 4294967295 by decide),(show (0 : Int) <= 0 /\ (0 : Int) <= 4294967295 by decide),h.until_,h.one,h.two,h.tries,h.said,h.asks⟩
  · exact h
theorem Inv.start (h : Inv n c) : Inv n (start c) := by
  unfold Cli.start; split
  · exact ⟨h.name,h.hw,by show (0 : Int) <= 0 /\ (0 : Int) <= 6; decide,h.xid,h.addr,h.server,h.until_,h.one,h.two,h.tries,h.said,h.asks⟩
  · exact h
theorem num_range (p : Pc) (k : Int) {o : Int} {m : Int} (ho : 0 <= o /\ o <= m) (hm : 4294967295 <= m) : 0 <= p.num k o /\ p.num k o <= m := by
  unfold Pc.num; split
  · rename_i h
    have := val_bounds (Oc.fd k p.os)
    rw [h] at this
    have h4 : (256 : Int) ^ 4 = 4294967296 := rfl
    omega
  · exact ho
theorem num_u32 (p : Pc) (k : Int) {o : Int} (ho : 0 <= o /\ o <= 4294967295) : 0 <= p.num k o /\ p.num k o <= 4294967295 := num_range p k ho (Int.le_refl _)
theorem Inv.take (h : Inv n c) {p : Pc} (hy : 0 <= p.yi /\ p.yi <= 4294967295) (hs : 0 <= p.si /\ p.si <= 4294967295) (now : Int) : Inv n (takeC c p now) := by
  unfold Cli.takeC
  have ht := num_u32 p 51 (o := 0) (by decide)
  have ha := h.asks
  split
  · split
    · exact ⟨h.name,h.hw,by show (0 : Int) <= 2 /\ (2 : Int) <= 6; decide,h.xid,hy,num_u32 p 54 hs,h.until_,h.one,h.two,⟨Int.le_refl 0,h.pos⟩,h.said,h.asks⟩
    · split
      · have h8 := num_u32 p 58 (o := p.num 51 0 / 2) (by omega)
        have h9 := num_u32 p 59 (o := p.num 51 0 - p.num 51 0 / 8) (by omega)
        exact ⟨h.name,h.hw,by show (0 : Int) <= 3 /\ (3 : Int) <= 6; decide,h.xid,h.addr,h.server,(show 0 <= c.asks + p.num 51 0 /\ c.asks + p.num 51 0 <= 1103806595072 by omega),(show 0 <= c.asks + p.num 58 (p.num 51 0 / 2) /\ c.asks + p.num 58 (p.num 51 0 / 2) <= 1103806595072 by omega),(show 0 <= c.asks + p.num 59 (p.num 51 0 - p.num 51 0 / 8) /\ c.asks + p.num 59 (p.num 51 0 - p.num 51 0 / 8) <= 1103806595072 by omega),h.tries,h.said,h.asks⟩
      · split
        · exact h.drop (by decide)
        · exact h
  · exact h
theorem hold_iff : holding c = true ↔ 3 <= c.state /\ c.state <= 5 := by unfold holding; simp
theorem hold_y (h : 3 <= c.state /\ c.state <= 5) : holding c = true := hold_iff.2 h
theorem hold_n (h : ¬ (3 <= c.state /\ c.state <= 5)) : holding c = false := by
  cases e : holding c with
  | false => rfl
  | true => exact absurd (hold_iff.1 e) h
end Cli
end Go.K
namespace Go.K
namespace Pc
theorem Rs0 (V : Vw) : Rs V (.slice none 0 0) [] := ⟨[],rfl,Rd.nil _ _ _,fun _ h => by cases h⟩
def Rk (e : TypeId) (V : Vw) (v : Value) : List Pc -> Prop
  | [] => v = .slice none 0 0
  | p :: _ => ∃ b hv ov,v = .slice (some ⟨b,0,none⟩) 1 1 /\ V b = some (.cells (p.cells hv ov) e (0,0)) /\ R V p hv ov
end Pc
theorem byte_row (k : Int) : [Value.int .u8 (k % 256)] = ([UInt8.ofNat (k % 256).toNat] : List UInt8).map byteV := by
  rw [List.map_cons,List.map_nil,byteV_of (by omega)]
theorem size_list (s : ByteArray) : s.toList.length = s.size := by simp [ByteArray.toList_eq]
namespace Cli
section
variable {c : Cli} {now : Int}
theorem sayP_1 (h : c.state = 1) : sayP c = says c 1 := if_pos h
theorem sayP_2 (h1 : ¬ c.state = 1) (h : c.state = 2) : sayP c = { says c 3 with os := (says c 3).os ++ [⟨50,Msg.be 4 c.addr⟩,⟨54,Msg.be 4 c.server⟩] } := (if_neg h1).trans (if_pos h)
theorem sayP_d (h1 : ¬ c.state = 1) (h2 : ¬ c.state = 2) : sayP c = { says c 3 with ci := c.addr } := (if_neg h1).trans (if_neg h2)
end
section
variable {c : Cli} {p : Pc} {now : Int}
theorem ask_iff : asking c = true ↔ c.state = 2 \/ c.state = 4 \/ c.state = 5 := by unfold asking; simp only [Bool.or_eq_true,beq_iff_eq]
end
end Cli
end Go.K
namespace Go.K
theorem Pc.R.forms {V : Vw} {p : Pc} {hv ov : Value} (h : Pc.R V p hv ov) : (∃ a c,hv = .slice a p.hw.length c) /\ ∃ a n c,ov = .slice a n c := by
  obtain ⟨a,c,h1,_⟩ := h.hw.form
  obtain ⟨L,_,ho,_⟩ := h.os
  obtain ⟨b,d,h2,_⟩ := ho.form
  exact ⟨⟨a,c,h1⟩,b,L.length,d,h2⟩
theorem Pc.Rk.le {e : TypeId} {V V2 : Vw} {v : Value} : ∀ {l : List Pc},Pc.Rk e V v l -> V.le V2 -> Pc.Rk e V2 v l
  | [],h,_ => h
  | _ :: _,⟨b,hv,ov,h1,h2,h3⟩,hl => ⟨b,hv,ov,h1,hl b _ h2,h3.le hl⟩
structure CStp where
  do_ : Int
  now : Int
  kind : Int
  time : Int
  addr : Int
  p : Pc
  hv : Value
  ov : Value
def CStp.cells (s : CStp) : List Value := .int .i64 s.do_ :: .int .i64 s.now :: .int .i64 s.kind :: .int .i64 s.time :: .int .u32 s.addr :: (s.p.cells s.hv s.ov).toList
theorem CStp.len (s : CStp) : s.cells.length = 15 := rfl
def CStp.dflt : CStp := ⟨0,0,0,0,0,⟨0,0,0,0,0,0,0,0,[],[]⟩,.slice none 0 0,.slice none 0 0⟩
namespace Cli
def ans (p : Pc) (kind time addr : Int) : Pc := ⟨2,p.xid,0,0,0,addr,9,0,p.hw,[⟨53,[UInt8.ofNat (kind % 256).toNat]⟩,⟨51,Msg.be 4 (time % 65536)⟩]⟩
def stepC (c : Cli) (s : CStp) (last : Pc) : Cli :=
  if s.do_ = 0 then tickC c s.now else if s.do_ = 1 then takeC c s.p s.now else if s.do_ = 2 then takeC c (ans last s.kind s.time s.addr) s.now else if s.do_ = 3 then relC c s.now else start c
def stepL (c : Cli) (s : CStp) (last : Pc) : Pc := if s.do_ = 0 then (tickP c s.now).headD last else last
variable {n : Int} {c : Cli}
theorem Inv.step (h : Inv n c) (s : CStp) {last : Pc} (hs : (0 <= s.p.yi /\ s.p.yi <= 4294967295) /\ (0 <= s.p.si /\ s.p.si <= 4294967295)) (ha : 0 <= s.addr /\ s.addr <= 4294967295) : Inv (n + 1) (stepC c s last) := by
  unfold stepC; split
  · exact h.tick _
  · split
    · exact (h.take hs.1 hs.2 _).more (by omega)
    · split
      · exact (h.take (p := ans last s.kind s.time s.addr) ha (show (0 : Int) <= 9 /\ (9 : Int) <= 4294967295 by decide) _).more (by omega)
      · split
        · exact (h.rel _).more (by omega)
        · exact h.start.more (by omega)
section
variable {s : CStp} {last : Pc}
theorem step_0 (h : s.do_ = 0) : stepC c s last = tickC c s.now /\ stepL c s last = (tickP c s.now).headD last := ⟨if_pos h,if_pos h⟩
theorem step_2 (h0 : ¬ s.do_ = 0) (h1 : ¬ s.do_ = 1) (h : s.do_ = 2) : stepC c s last = takeC c (ans last s.kind s.time s.addr) s.now /\ stepL c s last = last := ⟨(if_neg h0).trans ((if_neg h1).trans (if_pos h)),if_neg h0⟩
theorem step_3 (h0 : ¬ s.do_ = 0) (h1 : ¬ s.do_ = 1) (h2 : ¬ s.do_ = 2) (h : s.do_ = 3) : stepC c s last = relC c s.now /\ stepL c s last = last := ⟨(if_neg h0).trans ((if_neg h1).trans ((if_neg h2).trans (if_pos h))),if_neg h0⟩
theorem step_4 (h0 : ¬ s.do_ = 0) (h1 : ¬ s.do_ = 1) (h2 : ¬ s.do_ = 2) (h3 : ¬ s.do_ = 3) : stepC c s last = start c /\ stepL c s last = last := ⟨(if_neg h0).trans ((if_neg h1).trans ((if_neg h2).trans (if_neg h3))),if_neg h0⟩
end
end Cli
end Go.K
namespace Go.K
open Go.ChangeShapes Go.WideShapes Go.ChangeAt Go.RowKit
def CStp.Rs (V : Vw) (l : List CStp) : Prop := ∀ s,s ∈ l -> (Rd V [] 1 s.hv s.p.hw.length (s.p.hw.map byteV) /\ Pc.Rs V s.ov s.p.os) /\ (0 <= s.addr /\ s.addr <= 4294967295) /\ (0 <= s.p.xid /\ s.p.xid <= 4294967295) /\ (0 <= s.p.yi /\ s.p.yi <= 4294967295) /\ (0 <= s.p.si /\ s.p.si <= 4294967295)
theorem CStp.Rs.le {V V2 : Vw} {l : List CStp} (h : CStp.Rs V l) (hl : V.le V2) : CStp.Rs V2 l := fun s hs => ⟨⟨(h s hs).1.1.le hl,(h s hs).1.2.le hl⟩,(h s hs).2⟩
theorem CStp.Rs.at {V : Vw} {l : List CStp} (h : CStp.Rs V l) {s : CStp} (hs : s ∈ l) : Pc.R V s.p s.hv s.ov := ⟨(h s hs).1.1,(h s hs).1.2,(h s hs).2.2.1,(h s hs).2.2.2.1,(h s hs).2.2.2.2⟩
def i64g : Sh := .tag (0,.i64)
def u32g : Sh := .tag (0,.u32)
section
variable {H : Type} {enc : TypeId × Value -> H} {P : Program} {w : World} {base : Nat} {spare : Nat -> Bool} {held : Bool}
theorem shV_i64 {v : Value} (h : shV enc P w base spare held i64g v) : ∃ n,v = .int .i64 n := by obtain ⟨n,h1,_⟩ := wfV_int (show wfV (0,.i64) v from h); exact ⟨n,h1⟩
theorem shV_u32 {v : Value} (h : shV enc P w base spare held u32g v) : ∃ n,v = .int .u32 n /\ 0 <= n /\ n <= 4294967295 := by
  obtain ⟨n,h1,h2⟩ := wfV_int (show wfV (0,.u32) v from h)
  exact ⟨n,h1,Go.bounds_u32 h2⟩
theorem sh_opts {b o : TypeId} {v : Value} (hb : tagOf P b = some (0,.u8)) (ho : shN P 2 o = some [i64g,.sl b 1]) (h : shV enc P w base spare held (.sl o 2) v) : ∃ os,Pc.Rs (allV w) v os := by
  obtain ⟨rows,hr,_,hq⟩ := h
  obtain ⟨L,hL,hL2⟩ := rows_of Opn.cells (fun o => Rd (allV w) [] 1 o.v o.d.length (o.d.map byteV)) (rows := rows) (fun q hqq => by
    obtain ⟨fuel,x,hd⟩ := hq q hqq
    have hsh := trod_sh 2 ho hd
    obtain ⟨v0,c0,rfl,h0,k0⟩ := shVs_cons hsh
    obtain ⟨v1,c1,rfl,h1,k1⟩ := shVs_cons k0
    obtain rfl := shVs_nil k1
    obtain ⟨n,rfl⟩ := shV_i64 h0
    obtain ⟨d,hd⟩ := sh_bytes hb h1
    exact ⟨⟨n,v1,d⟩,rfl,hd⟩)
  subst hL
  rw [List.length_map] at hr
  exact ⟨L.map Opn.c,L,rfl,hr,hL2⟩
end
structure Lo where
  c : Cli
  V : Vw
  last : Pc
  hv : Value
  ov : Value
  i : Nat
theorem Pc.zero_R (V : Vw) : Pc.R V Cli.zeroP (.slice none 0 0) (.slice none 0 0) := ⟨Rd.nil _ _ _,Pc.Rs0 _,(show (0 : Int) <= 0 /\ (0 : Int) <= 4294967295 by decide),(show (0 : Int) <= 0 /\ (0 : Int) <= 4294967295 by decide),(show (0 : Int) <= 0 /\ (0 : Int) <= 4294967295 by decide)⟩
namespace Cli
def aw0 : Cli := new ⟨#[97]⟩ [1]
theorem fine_a : fine ⟨#[97]⟩ [1] := by unfold fine; decide
theorem inv0 : Inv 0 aw0 := Inv.new fine_a
end Cli
end Go.K
namespace Go.K
theorem CStp.one {V : Vw} {s : CStp} (h : Pc.R V s.p s.hv s.ov) : (Value.agg s.cells.toArray).cells.toList.all Go.K.one = true := by
  obtain ⟨⟨a,c,h1⟩,b,n,d,h2⟩ := h.forms
  have e : (Value.agg s.cells.toArray).cells.toList = s.cells := rfl
  rw [e]
  unfold CStp.cells Pc.cells
  rw [h1,h2]
  rfl
structure Lh where
  c : Cli
  V : Vw
  last : Pc
  hv : Value
  ov : Value
  i : Nat
  now : Int
namespace Cli
structure Rel (now : Int) (c t : Cli) : Prop where
  until_ : t.until_ = c.until_
  asks : t.asks = c.asks \/ t.asks = now
  hold : 3 <= t.state /\ t.state <= 5 -> 3 <= c.state /\ c.state <= 5
  req : t.state = 2 -> c.state = 2
  addr : 2 <= t.state /\ t.state <= 5 -> t.addr = c.addr
  none : ¬ t.addr = 0 -> (2 <= t.state /\ t.state <= 5) \/ (t.addr = c.addr /\ t.state = c.state)
variable {now n : Int} {c t u : Cli}
theorem Rel.rfl' (c : Cli) : Rel now c c := ⟨rfl,.inl rfl,id,id,fun _ => rfl,fun _ => .inr ⟨rfl,rfl⟩⟩
theorem Rel.trans (h : Rel now c t) (k : Rel now t u) : Rel now c u := by
  have a1 := h.until_
  have a2 := h.asks
  have a3 := h.hold
  have a4 := h.req
  have a5 := h.addr
  have a6 := h.none
  have b1 := k.until_
  have b2 := k.asks
  have b3 := k.hold
  have b4 := k.req
  have b5 := k.addr
  have b6 := k.none
  exact ⟨by omega,by omega,by omega,by omega,by omega,by omega⟩
theorem Rel.gone {s : Int} (hs : s = 0 \/ s = 6) : Rel now c (drop c s) :=
  ⟨rfl,.inl rfl,fun h => by have h1 : 3 <= s /\ s <= 5 := h; omega,fun h => by have h1 : s = 2 := h; omega,fun h => by have h1 : 2 <= s /\ s <= 5 := h; omega,fun h => absurd rfl h⟩
theorem Rel.anew : Rel now c (anew c) :=
  ⟨rfl,.inl rfl,fun h => by have h1 : (3 : Int) <= 1 /\ (1 : Int) <= 5 := h; omega,fun h => by have h1 : (1 : Int) = 2 := h; omega,fun h => by have h1 : (2 : Int) <= 1 /\ (1 : Int) <= 5 := h; omega,fun h => absurd rfl h⟩
theorem Rel.turn1 : Rel now c (turn1 c now) := by
  unfold Cli.turn1; split
  · exact Rel.gone (.inl rfl)
  · exact Rel.rfl' c
theorem Rel.turn2 : Rel now c (turn2 c now) := by
  unfold Cli.turn2; split
  · rename_i h
    exact ⟨rfl,.inr rfl,fun _ => by omega,fun h => by have h1 : (4 : Int) = 2 := h; omega,fun _ => rfl,fun _ => .inl (show (2 : Int) <= 4 /\ (4 : Int) <= 5 by decide)⟩
  · exact Rel.rfl' c
theorem Rel.turn3 : Rel now c (turn3 c now) := by
  unfold Cli.turn3; split
  · rename_i h
    exact ⟨rfl,.inl rfl,fun _ => by omega,fun h => by have h1 : (5 : Int) = 2 := h; omega,fun _ => rfl,fun _ => .inl (show (2 : Int) <= 5 /\ (5 : Int) <= 5 by decide)⟩
  · exact Rel.rfl' c
theorem Rel.due {b : Bool} : Rel now c { c with due := b } := ⟨rfl,.inl rfl,id,id,fun _ => rfl,fun _ => .inr ⟨rfl,rfl⟩⟩
theorem Rel.turn4 : Rel now c (turn4 c now) := by
  unfold Cli.turn4; split
  · exact Rel.anew
  · split
    · exact Rel.rfl' c
    · split
      · exact Rel.due
      · exact Rel.anew
theorem Rel.turn : Rel now c (turn c now) := ((Rel.turn1.trans Rel.turn2).trans Rel.turn3).trans Rel.turn4
theorem Rel.say : Rel now c (sayC c now) := by
  refine ⟨rfl,?_,id,id,fun _ => rfl,fun _ => .inr ⟨rfl,rfl⟩⟩
  show (if c.state = 2 /\ c.tries + 1 = 1 then now else c.asks) = c.asks \/ _
  split
  · exact .inr (by show (if c.state = 2 /\ c.tries + 1 = 1 then now else c.asks) = now; rw [if_pos (by assumption)])
  · exact .inl rfl
theorem Rel.tick : Rel now c (tickC c now) := by
  unfold Cli.tickC; split
  · split
    · exact Rel.rfl' c
    · split
      · exact Rel.turn.trans Rel.say
      · exact Rel.turn
  · exact Rel.rfl' c
theorem Rel.rel : Rel now c (relC c now) := by
  unfold Cli.relC; split
  · exact ⟨rfl,.inl rfl,fun h => by have h1 : (3 : Int) <= 6 /\ (6 : Int) <= 5 := h; omega,fun h => by have h1 : (6 : Int) = 2 := h; omega,fun h => by have h1 : (2 : Int) <= 6 /\ (6 : Int) <= 5 := h; omega,fun h => absurd rfl h⟩
  · exact Rel.rfl' c
theorem Rel.start (h : ¬ c.addr = 0 -> 2 <= c.state /\ c.state <= 5) : Rel now c (start c) := by
  unfold Cli.start; split
  · rename_i h6
    exact ⟨rfl,.inl rfl,fun h => by have h1 : (3 : Int) <= 0 /\ (0 : Int) <= 5 := h; omega,fun h => by have h1 : (0 : Int) = 2 := h; omega,fun h => by have h1 : (2 : Int) <= 0 /\ (0 : Int) <= 5 := h; omega,fun h2 => by have h3 : ¬ c.addr = 0 := h2; have := h h3; omega⟩
  · exact Rel.rfl' c
theorem turn_over (h : 3 <= (turn c now).state /\ (turn c now).state <= 5) : now <= c.until_ := by
  have h1 : 3 <= (turn1 c now).state /\ (turn1 c now).state <= 5 -> now <= (turn1 c now).until_ := by
    unfold Cli.turn1; split
    · intro h; have h1 : (3 : Int) <= 0 /\ (0 : Int) <= 5 := h; omega
    · rename_i h; intro h2
      refine Decidable.byContradiction fun h3 => h ⟨hold_y h2,by omega⟩
  have r := ((Rel.turn2 (now := now) (c := Cli.turn1 c now)).trans Rel.turn3).trans Rel.turn4
  have r1 := Rel.turn1 (now := now) (c := c)
  have := r.hold h
  have := h1 this
  rw [r1.until_] at this
  exact this
theorem tick_over (hm : Con.moment now = true) (h : 3 <= (tickC c now).state /\ (tickC c now).state <= 5) : now <= c.until_ := by
  unfold Cli.tickC at h
  rw [if_pos hm] at h
  split at h
  · rename_i h6; omega
  · split at h
    · exact turn_over h
    · exact turn_over h
structure J (c : Cli) (now : Int) : Prop where
  adr : 2 <= c.state /\ c.state <= 5 -> ¬ c.addr = 0
  only : ¬ c.addr = 0 -> 2 <= c.state /\ c.state <= 5
  pos : 3 <= c.state /\ c.state <= 5 -> 0 < c.until_
  asks : c.asks <= now
  now : 0 <= now
theorem J.new : J aw0 0 := ⟨fun h => by have h1 : (2 : Int) <= 0 /\ (0 : Int) <= 5 := h; omega,fun h => absurd rfl h,fun h => by have h1 : (3 : Int) <= 0 /\ (0 : Int) <= 5 := h; omega,Int.le_refl 0,Int.le_refl 0⟩
theorem J.later (h : J c now) {m : Int} (hm : now <= m) : J c m := ⟨h.adr,h.only,h.pos,Int.le_trans h.asks hm,Int.le_trans h.now hm⟩
theorem J.rel (h : J c now) {m : Int} (hm : now <= m) (r : Rel m c t) : J t m := by
  have a1 := h.adr
  have a2 := h.only
  have a3 := h.pos
  have a4 := h.asks
  have a5 := h.now
  have b1 := r.until_
  have b2 := r.asks
  have b3 := r.hold
  have b4 := r.req
  have b5 := r.addr
  have b6 := r.none
  exact ⟨by omega,by omega,by omega,by omega,by omega⟩
theorem num_ans (p : Pc) (kind time addr o : Int) : (ans p kind time addr).num 51 o = time % 65536 := by
  have h : Oc.fd 51 (ans p kind time addr).os = Msg.be 4 (time % 65536) := rfl
  have h4 : (256 : Int) ^ 4 = 4294967296 := rfl
  unfold Pc.num
  rw [h,if_pos (Msg.be_length _ _),Msg.val_be (by omega) (by omega)]
theorem take_J (h : J c now) {m : Int} (hm : now <= m) (p : Pc) (kind time addr : Int) (hi : Inv n c) : J (takeC c (ans p kind time addr) m) m /\ until0 (takeC c (ans p kind time addr) m) <= max (until0 c) (m + time % 65536) := by
  have a1 := h.adr
  have a2 := h.only
  have a3 := h.pos
  have a4 := h.asks
  have a5 := h.now
  have hk := hi.asks
  have keep : J c m /\ until0 c <= max (until0 c) (m + time % 65536) := ⟨h.later hm,by omega⟩
  unfold takeC
  split
  · split
    · rename_i ho
      refine ⟨⟨fun _ => ho.2.2.1,fun _ => (show (2 : Int) <= 2 /\ (2 : Int) <= 5 by decide),fun h => by have h1 : (3 : Int) <= 2 /\ (2 : Int) <= 5 := h; omega,by show c.asks <= m; omega,by omega⟩,?_⟩
      have : until0 ({ c with addr := (ans p kind time addr).yi,server := (ans p kind time addr).num 54 (ans p kind time addr).si,state := 2,tries := 0,due := true } : Cli) = 0 := if_neg (by rw [hold_n (by show ¬ ((3 : Int) <= 2 /\ (2 : Int) <= 5); decide)]; decide)
      rw [this]; omega
    · split
      · rename_i ha
        have hs := ask_iff.1 ha.2.1
        have ht := ha.2.2.2.2
        rw [num_ans] at ht
        refine ⟨⟨fun _ => a1 (by omega),fun _ => (show (2 : Int) <= 3 /\ (3 : Int) <= 5 by decide),fun _ => by show 0 < c.asks + _; rw [num_ans]; omega,by show c.asks <= m; omega,by omega⟩,?_⟩
        refine Int.le_trans (Int.le_of_eq (if_pos (hold_y (show (3 : Int) <= 3 /\ (3 : Int) <= 5 by decide)))) ?_
        show c.asks + _ <= _
        rw [num_ans]; omega
      · split
        · have r := Rel.gone (now := m) (c := c) (s := 0) (.inl rfl)
          refine ⟨h.rel hm r,?_⟩
          have : until0 (drop c 0) = 0 := if_neg (by rw [hold_n (by show ¬ ((3 : Int) <= 0 /\ (0 : Int) <= 5); decide)]; decide)
          rw [this]; omega
        · exact keep
  · exact keep
theorem until_rel (h : J c now) (r : Rel now c t) : until0 t <= until0 c := by
  have a3 := h.pos
  by_cases hh : holding t = true
  · have hc := hold_y (r.hold (hold_iff.1 hh))
    rw [show until0 t = t.until_ from if_pos hh,show until0 c = c.until_ from if_pos hc,r.until_]; omega
  · rw [show until0 t = 0 from if_neg hh]
    by_cases hc : holding c = true
    · rw [show until0 c = c.until_ from if_pos hc]; have := a3 (hold_iff.1 hc); omega
    · rw [show until0 c = 0 from if_neg hc]; omega
theorem J.step (h : J c now) (hi : Inv n c) {s : CStp} {last : Pc} (h1 : ¬ s.do_ = 1) (hm : now <= s.now) (hb : s.now <= 549755813888) :
    J (stepC c s last) s.now /\ until0 (stepC c s last) <= max (until0 c) (s.now + s.time % 65536) /\ (s.do_ = 0 -> holding (stepC c s last) = true -> s.now <= until0 (stepC c s last)) := by
  have a5 := h.now
  by_cases h0 : s.do_ = 0
  · rw [(step_0 (c := c) (last := last) h0).1]
    have r := Rel.tick (now := s.now) (c := c)
    refine ⟨h.rel hm r,?_,fun _ hh => ?_⟩
    · have := until_rel (h.later hm) r; omega
    · have ho := tick_over (Con.moment_yes (by omega)) (hold_iff.1 hh)
      rw [show until0 (tickC c s.now) = (tickC c s.now).until_ from if_pos hh,r.until_]; exact ho
  · by_cases h2 : s.do_ = 2
    · rw [(step_2 (c := c) (last := last) h0 h1 h2).1]
      obtain ⟨k1,k2⟩ := take_J h hm last s.kind s.time s.addr hi
      exact ⟨k1,k2,fun e => absurd e h0⟩
    · by_cases h3 : s.do_ = 3
      · rw [(step_3 (c := c) (last := last) h0 h1 h2 h3).1]
        have r := Rel.rel (now := s.now) (c := c)
        exact ⟨h.rel hm r,by have := until_rel (h.later hm) r; omega,fun e => absurd e h0⟩
      · rw [(step_4 (c := c) (last := last) h0 h1 h2 h3).1]
        have r := Rel.start (now := s.now) h.only
        exact ⟨h.rel hm r,by have := until_rel (h.later hm) r; omega,fun e => absurd e h0⟩
def J0 (c : Cli) : Prop := (2 <= c.state /\ c.state <= 5 -> ¬ c.addr = 0) /\ (¬ c.addr = 0 -> 2 <= c.state /\ c.state <= 5)
theorem J0.new : J0 aw0 := ⟨J.new.adr,J.new.only⟩
theorem J0.rel (h : J0 c) (r : Rel now c t) : J0 t := by
  obtain ⟨a1,a2⟩ := h
  have b3 := r.hold
  have b4 := r.req
  have b5 := r.addr
  have b6 := r.none
  exact ⟨by omega,by omega⟩
theorem J0.take (h : J0 c) (p : Pc) (now : Int) : J0 (takeC c p now) := by
  unfold takeC
  split
  · split
    · rename_i ho
      exact ⟨fun _ => ho.2.2.1,fun _ => (show (2 : Int) <= 2 /\ (2 : Int) <= 5 by decide)⟩
    · split
      · rename_i ha
        have hs := ask_iff.1 ha.2.1
        exact ⟨fun _ => h.1 (by omega),fun _ => (show (2 : Int) <= 3 /\ (3 : Int) <= 5 by decide)⟩
      · split
        · exact h.rel (now := now) (Rel.gone (.inl rfl))
        · exact h
  · exact h
theorem J0.step (h : J0 c) (s : CStp) (last : Pc) : J0 (stepC c s last) := by
  unfold stepC; split
  · exact h.rel (now := s.now) Rel.tick
  · split
    · exact h.take _ _
    · split
      · exact h.take _ _
      · split
        · exact h.rel (now := s.now) Rel.rel
        · exact h.rel (now := s.now) (Rel.start h.2)
theorem kind_says (c : Cli) (k : Int) (hk : 0 <= k /\ k <= 255) : (says c k).kind = k := by
  have h : Oc.fd 53 (says c k).os = [UInt8.ofNat (k % 256).toNat] := rfl
  unfold Pc.kind
  rw [h,if_pos (show ([UInt8.ofNat (k % 256).toNat] : List UInt8).length = 1 from rfl),val_one]
  have : k % 256 = k := by omega
  rw [this]
  have h2 : k.toNat < 256 := by omega
  simp only [UInt8.toNat_ofNat']
  omega
end Cli
end Go.K
namespace Go.K
theorem sl_mid (a m b : List UInt8) {i j : Nat} (hi : i = a.length) (hj : j = a.length + m.length) : Msg.sl (a ++ (m ++ b)) i j = m := by
  subst hi hj
  unfold Msg.sl
  rw [List.drop_left,Nat.add_sub_cancel_left,List.take_left]
namespace Oc
def bc (n : Int) : UInt8 := UInt8.ofNat (n % 256).toNat
def encL : List Oc -> List UInt8
  | [] => []
  | o :: l => bc o.code :: bc (o.d.length : Int) :: (o.d ++ encL l)
def encO (l : List Oc) : List UInt8 := encL l ++ [255]
end Oc
namespace Pc
def zeros (n : Nat) : List UInt8 := List.replicate n 0
def encH (p : Pc) : List UInt8 := [Oc.bc p.op,1,Oc.bc (p.hw.length : Int),0] ++ (Msg.be 4 p.xid ++ (Msg.be 2 p.secs ++ (Msg.be 2 p.flags ++ (Msg.be 4 p.ci ++ (Msg.be 4 p.yi ++ (Msg.be 4 p.si ++ (Msg.be 4 p.gi ++ (p.hw ++ (zeros (208 - p.hw.length) ++ [99,130,83,99])))))))))
def encP (p : Pc) : List UInt8 := encH p ++ Oc.encO p.os
theorem part {p : Pc} {a m b : List UInt8} {i j : Nat} (h : encP p = a ++ (m ++ b)) (hi : i = a.length) (hj : j = a.length + m.length) : Msg.sl (encP p) i j = m := by rw [h]; exact sl_mid a m b hi hj
end Pc
end Go.K
namespace Go.K
theorem rep_zeros : ∀ m,rep (Value.int .u8 0).cells.toList m = (Pc.zeros m).map byteV
  | 0 => rfl
  | m + 1 => by
    have := rep_zeros m
    show (Value.int .u8 0).cells.toList ++ rep (Value.int .u8 0).cells.toList m = _
    rw [this]; rfl
theorem rep_one (m : Nat) : (rep (Value.int .u8 0).cells.toList m).all one = true := by rw [rep_zeros]; exact all_one_bytes _
namespace Pc
end Pc
end Go.K
namespace Go.K
end Go.K
namespace Go.K
structure Dl where
  V : Vw
  L : List Opn
  p : Option Addr
  n : Nat
  k : Nat
  q : Sg
  i : Nat
namespace Oc
end Oc
namespace Pc
def bare (p : Pc) : Pc := { p with os := [] }
def asked (p : Pc) : Int := if (Oc.fd 50 p.os).length = 4 then val (Oc.fd 50 p.os) else p.ci
def asks (p : Pc) : Int := if (Oc.fd 51 p.os).length = 4 then val (Oc.fd 51 p.os) else 0
def client (p : Pc) : ByteArray := if 1 <= (Oc.fd 61 p.os).length /\ (Oc.fd 61 p.os).length <= 32 then ⟨(Oc.fd 61 p.os).toArray⟩ else ⟨p.hw.toArray⟩
end Pc
namespace Cli
theorem fd_says (c : Cli) (k : Int) : Oc.fd 61 (says c k).os = c.name.toList /\ Oc.fd 53 (says c k).os = [UInt8.ofNat (k % 256).toNat] /\ Oc.fd 50 (says c k).os = [] := ⟨rfl,rfl,rfl⟩
variable {n : Int} {c : Cli}
theorem byteArray_of (s : ByteArray) : (⟨s.toList.toArray⟩ : ByteArray) = s := by simp [ByteArray.toList_eq]
theorem told (h : Inv n c) : (sayP c).client = c.name /\ (sayP c).kind = (if c.state = 1 then 1 else 3) /\ (¬ c.state = 1 -> (sayP c).asked = c.addr) /\ (0 <= (sayP c).ci /\ (sayP c).ci <= 4294967295) /\ (sayP c).gi = 0 := by
  have h2 := h.name
  have hl := size_list c.name
  have hc : ∀ p : Pc,Oc.fd 61 p.os = c.name.toList -> p.client = c.name := fun p hp => by
    unfold Pc.client; rw [hp,if_pos (by omega),byteArray_of]
  have hk : ∀ (p : Pc) (k : Int),(0 <= k /\ k <= 255) -> Oc.fd 53 p.os = [UInt8.ofNat (k % 256).toNat] -> p.kind = k := fun p k hk hp => by
    have h := kind_says c k hk
    unfold Pc.kind at h ⊢
    rw [hp]; rw [(fd_says c k).2.1] at h; exact h
  by_cases h1 : c.state = 1
  · rw [sayP_1 h1,if_pos h1]
    exact ⟨hc _ rfl,hk _ 1 (by decide) rfl,fun e => absurd h1 e,(show (0 : Int) <= 0 /\ (0 : Int) <= 4294967295 by decide),rfl⟩
  · by_cases h3 : c.state = 2
    · rw [sayP_2 h1 h3,if_neg h1]
      refine ⟨hc _ rfl,hk _ 3 (by decide) rfl,fun _ => ?_,(show (0 : Int) <= 0 /\ (0 : Int) <= 4294967295 by decide),rfl⟩
      have e : Oc.fd 50 ({ says c 3 with os := (says c 3).os ++ [⟨50,Msg.be 4 c.addr⟩,⟨54,Msg.be 4 c.server⟩] } : Pc).os = Msg.be 4 c.addr := rfl
      unfold Pc.asked
      rw [e,if_pos (Msg.be_length _ _)]
      exact Msg.val_be h.addr.1 (by have : (256 : Int) ^ 4 = 4294967296 := rfl; have := h.addr.2; omega)
    · rw [sayP_d h1 h3,if_neg h1]
      refine ⟨hc _ rfl,hk _ 3 (by decide) rfl,fun _ => ?_,h.addr,rfl⟩
      have e : Oc.fd 50 ({ says c 3 with ci := c.addr } : Pc).os = [] := rfl
      unfold Pc.asked
      rw [e,if_neg (by decide)]
theorem val4 {l : List UInt8} (h : l.length = 4) : 0 <= val l /\ val l <= 4294967295 := by
  have := val_bounds l
  rw [h] at this
  have h4 : (256 : Int) ^ 4 = 4294967296 := rfl
  omega
end Cli
end Go.K
namespace Go.K
namespace Rg
theorem in_take {l : List Rg} {i : Nat} {a : Int} (h : In (l.take i) a) : ∃ j,j < i /\ j < l.length /\ (l.getD j dflt).low <= a /\ a <= (l.getD j dflt).high := by
  obtain ⟨r,hr,h1,h2⟩ := h
  obtain ⟨j,hj,rfl⟩ := List.mem_iff_getElem.1 hr
  rw [List.length_take] at hj
  rw [List.getElem_take] at h1 h2
  refine ⟨j,by omega,by omega,?_⟩
  rw [List.getD_eq_getElem?_getD,List.getElem?_eq_getElem (by omega)]; exact ⟨h1,h2⟩
theorem at_at2 {l : List Rg} {i : Nat} {n : Int} (hi : i < l.length) (h0 : 0 <= n - ((adr (l.take i)).length : Int)) (h1 : n - ((adr (l.take i)).length : Int) < size (l.getD i dflt)) :
    at_ (adr l) n = ((l.getD i dflt).low + (n - ((adr (l.take i)).length : Int)),0) := by
  have h := adr_at (l := l) (i := i) (j := (n - ((adr (l.take i)).length : Int)).toNat) hi (by omega)
  have e : (n : Int) = (((adr (l.take i)).length + (n - ((adr (l.take i)).length : Int)).toNat : Nat) : Int) := by omega
  rw [e,at_at h.1,h.2,<- e]
  simp only [Prod.mk.injEq,and_true]; omega
def hasB (l : List Rg) (a : Int) : Bool := l.any fun r => decide (r.low <= a) && decide (a <= r.high)
theorem hasB_in {l : List Rg} {a : Int} : hasB l a = true ↔ In l a := by
  unfold hasB In; rw [List.any_eq_true]; simp only [Bool.and_eq_true,decide_eq_true_eq]
theorem hasB_no {l : List Rg} {a : Int} (h : ∀ j,j < l.length -> ¬ ((l.getD j dflt).low <= a /\ a <= (l.getD j dflt).high)) : hasB l a = false := by
  refine Bool.eq_false_iff.2 fun hc => ?_
  have := hasB_in.1 hc
  rw [<- List.take_length (l := l)] at this
  obtain ⟨k,hk,_,hk2⟩ := in_take this
  exact h k hk hk2
theorem hasB_yes {l : List Rg} {a : Int} {j : Nat} (hj : j < l.length) (h1 : (l.getD j dflt).low <= a) (h2 : a <= (l.getD j dflt).high) : hasB l a = true := hasB_in.2 ⟨_,getD_mem' hj _,h1,h2⟩
def nxs (a best : Int) (r : Rg) : Int := if max r.low a <= r.high /\ (best < 0 \/ max r.low a < best) then max r.low a else best
def nx (l : List Rg) (a : Int) : Int := l.foldl (nxs a) (-1)
theorem nx_take {l : List Rg} {i : Nat} {a : Int} (h : i < l.length) : nx (l.take (i + 1)) a = nxs a (nx (l.take i) a) (l.getD i dflt) := by
  unfold nx; rw [take_succ_getD l i dflt h,List.foldl_append]; rfl
theorem nx_yes {a b : Int} {r : Rg} (h : max r.low a <= r.high) (k : b < 0 \/ max r.low a < b) : nxs a b r = max r.low a := if_pos ⟨h,k⟩
theorem nx_no {a b : Int} {r : Rg} (h : ¬ max r.low a <= r.high \/ ¬ (b < 0 \/ max r.low a < b)) : nxs a b r = b := if_neg fun hc => h.elim (fun k => k hc.1) (fun k => k hc.2)
def NX (l : List Rg) (a n : Int) : Prop := (n = -1 /\ ∀ x,a <= x -> ¬ In l x) \/ (a <= n /\ In l n /\ ∀ x,a <= x -> x < n -> ¬ In l x)
theorem nx_is {a : Int} (ha : 0 <= a) : ∀ (l m : List Rg) (b : Int),NX m a b -> NX (m ++ l) a (l.foldl (nxs a) b)
  | [],m,b,h => by simpa using h
  | r :: l,m,b,h => by
    rw [List.foldl_cons,show m ++ r :: l = (m ++ [r]) ++ l by simp]
    refine nx_is ha l (m ++ [r]) _ ?_
    have hin : ∀ x,In (m ++ [r]) x ↔ In m x \/ (r.low <= x /\ x <= r.high) := fun x => by
      unfold In
      constructor
      · rintro ⟨q,hq,h1,h2⟩
        rcases List.mem_append.1 hq with hq | hq
        · exact .inl ⟨q,hq,h1,h2⟩
        · rw [List.mem_singleton] at hq; subst hq; exact .inr ⟨h1,h2⟩
      · rintro (⟨q,hq,h1,h2⟩ | h)
        · exact ⟨q,List.mem_append_left _ hq,h1,h2⟩
        · exact ⟨r,by simp,h⟩
    by_cases hc : max r.low a <= r.high /\ (b < 0 \/ max r.low a < b)
    · rw [show nxs a b r = max r.low a from if_pos hc]
      refine .inr ⟨by omega,(hin _).2 (.inr ⟨by omega,hc.1⟩),fun x hx hx2 hI => ?_⟩
      rcases (hin x).1 hI with hI | hI
      · rcases h with ⟨_,h⟩ | ⟨h1,h2,h3⟩
        · exact h x hx hI
        · exact h3 x hx (by omega) hI
      · omega
    · rw [show nxs a b r = b from if_neg hc]
      rcases h with ⟨h1,h⟩ | ⟨h1,h2,h3⟩
      · subst h1
        refine .inl ⟨rfl,fun x hx hI => ?_⟩
        rcases (hin x).1 hI with hI | hI
        · exact h x hx hI
        · exact hc ⟨by omega,.inl (by omega)⟩
      · refine .inr ⟨h1,(hin _).2 (.inl h2),fun x hx hx2 hI => ?_⟩
        rcases (hin x).1 hI with hI | hI
        · exact h3 x hx hx2 hI
        · by_cases h5 : max r.low a <= r.high
          · exact hc ⟨h5,.inr (by omega)⟩
          · omega
theorem nx_spec (l : List Rg) {a : Int} (ha : 0 <= a) : NX l a (nx l a) := by
  have := nx_is ha l [] (-1) (.inl ⟨rfl,fun x _ ⟨_,h,_⟩ => by cases h⟩)
  rw [List.nil_append] at this; exact this
theorem can_lt {C : List Rg} (h : Can C) {i j : Nat} (hij : i < j) (hj : j < C.length) : (C.getD i dflt).high + 1 < (C.getD j dflt).low := by
  rw [List.getD_eq_getElem?_getD,List.getD_eq_getElem?_getD,List.getElem?_eq_getElem (by omega),List.getElem?_eq_getElem hj]
  exact List.pairwise_iff_getElem.1 h.2 i j (by omega) hj hij
theorem can_lh {C : List Rg} (h : Can C) {i : Nat} (hi : i < C.length) : (C.getD i dflt).low <= (C.getD i dflt).high := h.1 _ (getD_mem' hi _)
theorem in_at {C : List Rg} {x : Int} (h : In C x) : ∃ j,j < C.length /\ (C.getD j dflt).low <= x /\ x <= (C.getD j dflt).high := by
  rw [<- List.take_length (l := C)] at h
  obtain ⟨k,hk,_,hk2⟩ := in_take h
  exact ⟨k,hk,hk2⟩
theorem at_in {C : List Rg} {x : Int} {j : Nat} (h : j < C.length) (h1 : (C.getD j dflt).low <= x) (h2 : x <= (C.getD j dflt).high) : In C x := ⟨_,getD_mem' h _,h1,h2⟩
def lowk (C : List Rg) (k : Nat) : Int := if k < C.length then (C.getD k dflt).low else -1
theorem nx_low {l C : List Rg} (hC : Can C) (e : ∀ x,In C x ↔ In l x) {k : Nat} {a : Int} (ha : 0 <= a) (h1 : ∀ j,j < k -> j < C.length -> (C.getD j dflt).high < a) (h2 : k < C.length -> a <= (C.getD k dflt).low) : nx l a = lowk C k := by
  have h := nx_spec l ha
  unfold lowk
  by_cases hk : k < C.length
  · rw [if_pos hk]
    have hl := can_lh hC hk
    have hin : In C (C.getD k dflt).low := at_in hk (by omega) hl
    rcases h with ⟨_,h⟩ | ⟨g1,g2,g3⟩
    · exact absurd ((e _).1 hin) (h _ (h2 hk))
    · have a1 : ¬ (C.getD k dflt).low < nx l a := fun hc => g3 _ (h2 hk) hc ((e _).1 hin)
      obtain ⟨j,hj,j1,j2⟩ := in_at ((e _).2 g2)
      by_cases hjk : j < k
      · have := h1 j hjk hj; omega
      · by_cases hjk2 : j = k
        · subst hjk2; omega
        · have := can_lt hC (i := k) (j := j) (by omega) hj; omega
  · rw [if_neg hk]
    rcases h with ⟨h,_⟩ | ⟨g1,g2,g3⟩
    · exact h
    · obtain ⟨j,hj,j1,j2⟩ := in_at ((e _).2 g2)
      have := h1 j (by omega) hj; omega
theorem nx_first {l C : List Rg} (hC : Can C) (e : ∀ x,In C x ↔ In l x) (ok : Oks C) : nx l 0 = lowk C 0 := nx_low hC e (Int.le_refl _) (fun j h => absurd h (Nat.not_lt_zero j)) (fun _ => (ok.bd 0).1)
theorem nx_next {l C : List Rg} (hC : Can C) (e : ∀ x,In C x ↔ In l x) (ok : Oks C) {k : Nat} (hk : k < C.length) : nx l ((C.getD k dflt).high + 1) = lowk C (k + 1) := by
  have := ok.bd k
  refine nx_low hC e (by omega) (fun j hj hj2 => ?_) (fun h => by have := can_lt hC (i := k) (j := k + 1) (by omega) h; omega)
  by_cases hjk : j = k
  · subst hjk; omega
  · have := can_lt hC (i := j) (j := k) (by omega) hk
    have := can_lh hC hk; omega
theorem has_inside {l C : List Rg} (e : ∀ x,In C x ↔ In l x) {k : Nat} {h : Int} (hk : k < C.length) (h1 : (C.getD k dflt).low <= h) (h2 : h < (C.getD k dflt).high) : hasB l (h + 1) = true := hasB_in.2 ((e _).1 (at_in hk (by omega) (by omega)))
theorem has_behind {l C : List Rg} (hC : Can C) (e : ∀ x,In C x ↔ In l x) {k : Nat} (hk : k < C.length) : hasB l ((C.getD k dflt).high + 1) = false := by
  refine Bool.eq_false_iff.2 fun hc => ?_
  obtain ⟨j,hj,j1,j2⟩ := in_at ((e _).2 (hasB_in.1 hc))
  have hl := can_lh hC hk
  by_cases h1 : j < k
  · have := can_lt hC h1 hk; omega
  · by_cases h2 : j = k
    · subst h2; omega
    · have := can_lt hC (i := k) (j := j) (by omega) hj; omega
theorem cnt_ge {C : List Rg} (hC : Can C) (k : Nat) : cnt (C.take k) <= cnt C := by
  have e : cnt C = cnt (C.take k) + cnt (C.drop k) := by
    rw [show cnt C = cnt (C.take k ++ C.drop k) from by rw [List.take_append_drop]]
    unfold cnt; rw [List.map_append,List.sum_append]
  have : ∀ l : List Rg,(∀ r,r ∈ l -> r.low <= r.high) -> 0 <= cnt l := fun l => by
    induction l with
    | nil => intro _; simp [cnt]
    | cons r l ih =>
                  intro h; have := ih fun q hq => h q (List.mem_cons_of_mem _ hq); have h0 := h r (List.mem_cons_self ..); have e : cnt (r :: l) = size r + cnt l := by simp [cnt]
                  rw [e]; unfold size; omega
  have := this (C.drop k) fun r hr => hC.1 r (List.mem_of_mem_drop hr)
  omega
theorem cnt_nn {C : List Rg} (hC : Can C) (k : Nat) : 0 <= cnt (C.take k) := by
  rw [cnt_adr (l := C.take k) fun r hr => hC.1 r (List.mem_of_mem_take hr)]; omega
theorem lowk_nn {C : List Rg} (ok : Oks C) (k : Nat) : (lowk C k >= 0 /\ k < C.length /\ lowk C k = (C.getD k dflt).low) \/ (lowk C k = -1 /\ ¬ k < C.length) := by
  unfold lowk
  by_cases h : k < C.length
  · rw [if_pos h]; exact .inl ⟨(ok.bd k).1,h,rfl⟩
  · rw [if_neg h]; exact .inr ⟨rfl,h⟩
theorem odd_at {l : List Rg} {i : Nat} (hi : i < l.length) (h : (l.getD i dflt).high < (l.getD i dflt).low) : l.any odd = true := List.any_eq_true.2 ⟨_,getD_mem' hi _,decide_eq_true h⟩
theorem odd_none {l : List Rg} (h : ∀ i,i < l.length -> ¬ (l.getD i dflt).high < (l.getD i dflt).low) : l.any odd = false := by
  refine Bool.eq_false_iff.2 fun hc => ?_
  obtain ⟨r,hr,hb⟩ := List.any_eq_true.1 hc
  obtain ⟨j,hj,rfl⟩ := List.mem_iff_getElem.1 hr
  have := h j hj
  rw [List.getD_eq_getElem?_getD,List.getElem?_eq_getElem hj] at this
  exact this (of_decide_eq_true hb)
end Rg
end Go.K
namespace Go.K
namespace Rg
def s1 (x : Option (Nat × Nat)) (c : UInt8) : Option (Nat × Nat) := match x with
  | none => none
  | some (a,p) => if c.toNat = 46 then some ((a * 256 + p % 256) % 4294967296,0) else if c.toNat < 48 \/ c.toNat > 57 \/ p > 255 then none else some (a,p * 10 + (c.toNat - 48))
def f1 (L : List UInt8) : Option (Nat × Nat) := L.foldl s1 (some (0,0))
def s2 (x : Option (Nat × Nat)) (c : UInt8) : Option (Nat × Nat) := match x with
  | none => none
  | some (n,p) => match (if c.toNat = 46 then some (n * 256 + p,0) else if 48 <= c.toNat /\ c.toNat <= 57 then some (n,p * 10 + (c.toNat - 48)) else none) with
    | none => none
    | some (n,p) => if p > 255 \/ n > 4294967295 then none else some (n,p)
def f2 (L : List UInt8) : Option (Nat × Nat) := L.foldl s2 (some (0,0))
def ends (s : ByteArray) (x : Option Nat) : Int × Int := match x with
  | none => (0,2)
  | some a => if (txt a).toList == s.toList then ((a : Int),0) else (0,2)
def p1 (s : ByteArray) : Int × Int := if s.size > 15 then (0,2) else ends s ((f1 s.toList).map fun x => (x.1 * 256 + x.2 % 256) % 4294967296)
def p2 (s : ByteArray) : Int × Int := if s.size > 15 then (0,2) else ends s ((f2 s.toList).bind fun x => if x.1 * 256 + x.2 > 4294967295 then none else some (x.1 * 256 + x.2))
end Rg
end Go.K
namespace Go.K
namespace Rg
theorem pool_can {l : List Rg} (h : (pool l).2 = 0) : Can (pool l).1 /\ cnt (pool l).1 <= 256 := by
  by_cases c : l.any odd = true
  · rw [pool_odd c] at h; cases h
  · have c : l.any odd = false := by simpa using c
    by_cases k : cnt (can l) > 256
    · rw [pool_full c k] at h; cases h
    · rw [pool_ok c k]; exact ⟨(can_spec (odd_all c)).1,by show cnt (can l) <= 256; omega⟩
theorem at_in2 {as_ : List Int} {i : Nat} (h : i < as_.length) : at_ as_ (i : Int) = (as_.getD i 0,0) := by
  unfold at_; rw [if_pos (by omega)]; rfl
end Rg
namespace Le
def first (l : List Le) (b : Int) : Int × Bool := match bnd l b with
  | [] => (0,false)
  | x :: _ => (x.addr,true)
theorem all_perm (l : List Le) : l.Perm (l.filter fun _ => true) := by rw [List.filter_eq_self.2 fun _ _ => rfl]
def In (T : TypeId) (l : List Le) (tx : Nat) (s : Sg) : Prop := Ris l /\ l.length <= 256 /\ ∃ vm sm,Om .u32 vm (mt l) sm /\ s = ([[(tx,.cells #[vm] T (0,0))],sm] : Hp).flatten
def new (as_ : List Int) : List Le := as_.map fun a => bare a 0 0
theorem new_len (as_ : List Int) : (new as_).length = as_.length := by unfold new; simp
theorem new_take {as_ : List Int} {i : Nat} (h : i < as_.length) : new (as_.take (i + 1)) = new (as_.take i) ++ [bare (as_.getD i 0) 0 0] := by
  unfold new; rw [take_succ_getD as_ i 0 h]; simp
theorem new_ris {as_ : List Int} (h : as_.Pairwise (· < ·)) : Ris (new as_) := by
  unfold new Ris; rw [List.pairwise_map]; exact h
theorem new_set {as_ : List Int} {i : Nat} (h : as_.Pairwise (· < ·)) (hi : i < as_.length) : mset (mt (new (as_.take i))) (as_.getD i 0) (agg (bare (as_.getD i 0) 0 0)) = mt (new (as_.take (i + 1))) := by
  rw [new_take hi,mt_snoc]
  refine mset_none ?_
  rw [mt_get]
  have : get (new (as_.take i)) (as_.getD i 0) = none := by
    unfold get; rw [List.find?_eq_none]
    intro x hx
    obtain ⟨a,ha,rfl⟩ := List.mem_map.1 hx
    have h2 := h
    rw [<- List.take_append_drop i as_] at h2
    have := (List.pairwise_append.1 h2).2.2 a ha (as_.getD i 0) (by rw [List.getD_eq_getElem?_getD,List.getElem?_eq_getElem hi,List.drop_eq_getElem_cons hi]; exact List.mem_cons_self ..)
    show ¬ ((a == as_.getD i 0) = true)
    rw [beq_iff_eq]; omega
  rw [this]; rfl
end Le
end Go.K
namespace Go.K
namespace Le
variable {l : List Le} {i : Nat} {b now : Int} {c : ByteArray}
end Le
end Go.K
namespace Go.K
namespace Le
variable {l ls : List Le} {i n : Nat} {b now : Int} {c : ByteArray} {x : Le}
def long (n : Nat) (ls : List Le) : Bool := ls.any (fun x => decide (x.client.size > 200)) || (decide (n > 50) || decide (ls.length > 200))
theorem long_f (h : long n ls = false) : n <= 50 /\ ls.length <= 200 := by
  unfold long at h
  simp only [Bool.or_eq_false_iff,decide_eq_false_iff_not] at h
  omega
theorem mem_getD (hi : i < l.length) : l.getD i dflt ∈ l := by
  rw [List.getD_eq_getElem?_getD,List.getElem?_eq_getElem hi]; exact List.getElem_mem hi
theorem long_at (hi : i < ls.length) (h : (ls.getD i dflt).client.size > 200) : long n ls = true := by
  unfold long
  rw [List.any_eq_true.2 ⟨_,mem_getD hi,decide_eq_true h⟩]; rfl
theorem long_no (h : ∀ j,j < ls.length -> ¬ (ls.getD j dflt).client.size > 200) : long n ls = (decide (n > 50) || decide (ls.length > 200)) := by
  unfold long
  rw [show ls.any (fun x => decide (x.client.size > 200)) = false from List.any_eq_false.2 fun y hy => by
    obtain ⟨j,hj,rfl⟩ := List.getElem_of_mem hy
    have := h j hj
    rw [List.getD_eq_getElem?_getD,List.getElem?_eq_getElem hj] at this
    simpa using this]
  rfl
end Le
namespace Rg
def p13 : List Rg := [⟨1,3⟩]
end Rg
namespace Le
end Le
end Go.K
namespace Go.K
namespace Bk
def w2 (a : Bool) (k : Nat) : Nat := if a = true then k else 0
def b8 (a b c d e f g h : Bool) : Nat := w2 a 1 + w2 b 2 + w2 c 4 + w2 d 8 + w2 e 16 + w2 f 32 + w2 g 64 + w2 h 128
def byte (f : Nat -> Bool) (j : Nat) : Nat := b8 (f (j * 8)) (f (j * 8 + 1)) (f (j * 8 + 2)) (f (j * 8 + 3)) (f (j * 8 + 4)) (f (j * 8 + 5)) (f (j * 8 + 6)) (f (j * 8 + 7))
theorem b8_lt : ∀ a b c d e f g h : Bool,b8 a b c d e f g h < 256 := by decide
theorem byte_lt (f : Nat -> Bool) (j : Nat) : byte f j < 256 := b8_lt ..
theorem b8_not : ∀ a b c d e f g h : Bool,b8 (!a) (!b) (!c) (!d) (!e) (!f) (!g) (!h) = 255 - b8 a b c d e f g h := by decide
theorem byte_not (f : Nat -> Bool) (j : Nat) : byte (fun k => !f k) j = 255 - byte f j := b8_not ..
theorem b8_has : ∀ a b c d e f g h : Bool,(b8 a b c d e f g h % 2 == 1) = a /\ (b8 a b c d e f g h / 2 % 2 == 1) = b /\ (b8 a b c d e f g h / 4 % 2 == 1) = c /\ (b8 a b c d e f g h / 8 % 2 == 1) = d /\ (b8 a b c d e f g h / 16 % 2 == 1) = e /\ (b8 a b c d e f g h / 32 % 2 == 1) = f /\ (b8 a b c d e f g h / 64 % 2 == 1) = g /\ (b8 a b c d e f g h / 128 % 2 == 1) = h := by decide
theorem byte_has (f : Nat -> Bool) (n : Nat) : (byte f (n / 8) / 2 ^ (n % 8) % 2 == 1) = f n := by
  obtain ⟨h0,h1,h2,h3,h4,h5,h6,h7⟩ := b8_has (f (n / 8 * 8)) (f (n / 8 * 8 + 1)) (f (n / 8 * 8 + 2)) (f (n / 8 * 8 + 3)) (f (n / 8 * 8 + 4)) (f (n / 8 * 8 + 5)) (f (n / 8 * 8 + 6)) (f (n / 8 * 8 + 7))
  have hn : n = n / 8 * 8 + n % 8 := by omega
  conv => rhs; rw [hn]
  rcases (show n % 8 = 0 \/ n % 8 = 1 \/ n % 8 = 2 \/ n % 8 = 3 \/ n % 8 = 4 \/ n % 8 = 5 \/ n % 8 = 6 \/ n % 8 = 7 by omega) with e | e | e | e | e | e | e | e <;> rw [e]
  · rw [Nat.pow_zero,Nat.div_one]; exact h0
  · exact h1
  · exact h2
  · exact h3
  · exact h4
  · exact h5
  · exact h6
  · exact h7
def upto (f : Nat -> Bool) (n : Nat) : Nat -> Bool := fun k => decide (k < n) && f k
theorem b8_put : ∀ a b c d e f g h : Bool,b8 a false false false false false false false = w2 a 1 /\ b8 a b false false false false false false = b8 a false false false false false false false + w2 b 2 /\ b8 a b c false false false false false = b8 a b false false false false false false + w2 c 4
    /\ b8 a b c d false false false false = b8 a b c false false false false false + w2 d 8 /\ b8 a b c d e false false false = b8 a b c d false false false false + w2 e 16 /\ b8 a b c d e f false false = b8 a b c d e false false false + w2 f 32
    /\ b8 a b c d e f g false = b8 a b c d e f false false + w2 g 64 /\ b8 a b c d e f g h = b8 a b c d e f g false + w2 h 128 := by decide
theorem upv (f : Nat -> Bool) (j r i : Nat) : upto f (j * 8 + r) (j * 8 + i) = (decide (i < r) && f (j * 8 + i)) := by
  unfold upto; rw [decide_eq_decide.2 (show j * 8 + i < j * 8 + r ↔ i < r by omega)]
theorem byte_upto (f : Nat -> Bool) (j r : Nat) : byte (upto f (j * 8 + r)) j = b8 (decide (0 < r) && f (j * 8)) (decide (1 < r) && f (j * 8 + 1)) (decide (2 < r) && f (j * 8 + 2)) (decide (3 < r) && f (j * 8 + 3)) (decide (4 < r) && f (j * 8 + 4)) (decide (5 < r) && f (j * 8 + 5)) (decide (6 < r) && f (j * 8 + 6)) (decide (7 < r) && f (j * 8 + 7)) := by
  unfold byte; rw [upv,upv,upv,upv,upv,upv,upv,show upto f (j * 8 + r) (j * 8) = (decide (0 < r) && f (j * 8)) from upv f j r 0]
theorem byte_put (f : Nat -> Bool) (n : Nat) : byte (upto f (n + 1)) (n / 8) = byte (upto f n) (n / 8) + w2 (f n) (2 ^ (n % 8)) := by
  have hn : n = n / 8 * 8 + n % 8 := by omega
  have hr : n % 8 < 8 := Nat.mod_lt _ (by decide)
  generalize n / 8 = j at hn ⊢
  generalize n % 8 = r at hn hr ⊢
  subst hn
  obtain ⟨h0,h1,h2,h3,h4,h5,h6,h7⟩ := b8_put (f (j * 8)) (f (j * 8 + 1)) (f (j * 8 + 2)) (f (j * 8 + 3)) (f (j * 8 + 4)) (f (j * 8 + 5)) (f (j * 8 + 6)) (f (j * 8 + 7))
  rw [Nat.add_assoc,byte_upto,byte_upto]
  match r,hr with
  | 0,_ => exact h0.trans (Nat.zero_add _).symm
  | 1,_ => exact h1
  | 2,_ => exact h2
  | 3,_ => exact h3
  | 4,_ => exact h4
  | 5,_ => exact h5
  | 6,_ => exact h6
  | 7,_ => exact h7
theorem byte_else (f : Nat -> Bool) {n j : Nat} (h : j ≠ n / 8) : byte (upto f (n + 1)) j = byte (upto f n) j := by
  have key : ∀ i,i < 8 -> upto f (n + 1) (j * 8 + i) = upto f n (j * 8 + i) := fun i hi => by
    unfold upto; rw [decide_eq_decide.2 (show j * 8 + i < n + 1 ↔ j * 8 + i < n by omega)]
  unfold byte
  rw [key 1 (by decide),key 2 (by decide),key 3 (by decide),key 4 (by decide),key 5 (by decide),key 6 (by decide),key 7 (by decide),show upto f (n + 1) (j * 8) = upto f n (j * 8) from key 0 (by decide)]
def mks (f : Nat -> Bool) : List Value := (List.range 32).map fun j => .int .u8 ((byte f j : Nat) : Int)
def ins (f : Nat -> Bool) : List Value := (List.range 256).map fun i => .bool (f i)
theorem mks_len (f : Nat -> Bool) : (mks f).length = 32 := by unfold mks; simp
theorem ins_len (f : Nat -> Bool) : (ins f).length = 256 := by unfold ins; simp
theorem mks_at (f : Nat -> Bool) {j : Nat} (h : j < 32) : (mks f)[j]? = some (.int .u8 ((byte f j : Nat) : Int)) := by
  unfold mks; rw [List.getElem?_map,List.getElem?_range h]; rfl
theorem ins_at (f : Nat -> Bool) {i : Nat} (h : i < 256) : (ins f)[i]? = some (.bool (f i)) := by
  unfold ins; rw [List.getElem?_map,List.getElem?_range h]; rfl
theorem mks_set (f : Nat -> Bool) {n : Nat} (h : n < 256) : (mks (upto f n)).set (n / 8) (.int .u8 ((byte (upto f n) (n / 8) + w2 (f n) (2 ^ (n % 8)) : Nat) : Int)) = mks (upto f (n + 1)) := by
  rw [<- byte_put]
  refine List.ext_getElem? fun j => ?_
  by_cases hj : j < 32
  · by_cases e : n / 8 = j
    · subst e; rw [List.getElem?_set_self (by rw [mks_len]; omega),mks_at _ (by omega)]
    · rw [List.getElem?_set_ne e,mks_at _ hj,mks_at _ hj,byte_else f (Ne.symm e)]
  · rw [List.getElem?_eq_none (by rw [List.length_set,mks_len]; omega),List.getElem?_eq_none (by rw [mks_len]; omega)]
theorem mks_skip {f : Nat -> Bool} {n : Nat} (h : n < 256) (k : f n = false) : mks (upto f n) = mks (upto f (n + 1)) := by
  refine List.ext_getElem? fun j => ?_
  by_cases hj : j < 32
  · rw [mks_at _ hj,mks_at _ hj]
    by_cases e : j = n / 8
    · subst e; rw [byte_put,k]; rfl
    · rw [byte_else f e]
  · rw [List.getElem?_eq_none (by rw [mks_len]; omega),List.getElem?_eq_none (by rw [mks_len]; omega)]
theorem mks_congr {f g : Nat -> Bool} (h : ∀ i,i < 256 -> f i = g i) : mks f = mks g := by
  unfold mks
  refine List.map_congr_left fun j hj => ?_
  have hj : j < 32 := List.mem_range.1 hj
  unfold byte
  rw [h _ (by omega),h _ (by omega),h _ (by omega),h _ (by omega),h _ (by omega),h _ (by omega),h _ (by omega),h _ (by omega)]
theorem ins_step (f : Nat -> Bool) {n : Nat} (h : n < 256) : (ins (upto f n)).set n (.bool (f n)) = ins (upto f (n + 1)) := by
  refine List.ext_getElem? fun j => ?_
  by_cases hj : j < 256
  · by_cases e : n = j
    · subst e; rw [List.getElem?_set_self (by rw [ins_len]; omega),ins_at _ h]; unfold upto; rw [decide_eq_true (by omega),Bool.true_and]
    · rw [List.getElem?_set_ne e,ins_at _ hj,ins_at _ hj]; unfold upto; rw [decide_eq_decide.2 (show j < n ↔ j < n + 1 by omega)]
  · rw [List.getElem?_eq_none (by rw [List.length_set,ins_len]; omega),List.getElem?_eq_none (by rw [ins_len]; omega)]
theorem ins_congr {f g : Nat -> Bool} (h : ∀ i,i < 256 -> f i = g i) : ins f = ins g := by
  unfold ins; exact List.map_congr_left fun i hi => by rw [h i (List.mem_range.1 hi)]
theorem upto_all (f : Nat -> Bool) {n : Nat} (h : 256 <= n) : ∀ i,i < 256 -> upto f n i = f i := fun i hi => by unfold upto; rw [decide_eq_true (by omega),Bool.true_and]
theorem upto_zero (f : Nat -> Bool) : upto f 0 = fun _ => false := by funext k; unfold upto; rw [decide_eq_false (Nat.not_lt_zero k),Bool.false_and]
def nots (f : Nat -> Bool) (n : Nat) : List Value := (List.range 32).map fun j => .int .u8 ((byte (fun k => if j < n then !f k else f k) j : Nat) : Int)
theorem nots_zero (f : Nat -> Bool) : nots f 0 = mks f := by
  unfold nots mks; refine List.map_congr_left fun j _ => ?_
  simp only [Nat.not_lt_zero,if_false]
theorem nots_len (f : Nat -> Bool) (n : Nat) : (nots f n).length = 32 := by unfold nots; simp
theorem nots_at (f : Nat -> Bool) {n j : Nat} (h : j < 32) : (nots f n)[j]? = some (.int .u8 ((byte (fun k => if j < n then !f k else f k) j : Nat) : Int)) := by
  unfold nots; rw [List.getElem?_map,List.getElem?_range h]; rfl
theorem nots_self (f : Nat -> Bool) {n : Nat} (h : n < 32) : (nots f n)[n]? = some (.int .u8 ((byte f n : Nat) : Int)) := by
  rw [nots_at f h]; simp only [Nat.lt_irrefl,if_false]
theorem nots_all (f : Nat -> Bool) : nots f 32 = mks fun k => !f k := by
  unfold nots mks; refine List.map_congr_left fun j hj => ?_
  simp only [if_pos (List.mem_range.1 hj)]
theorem nots_set (f : Nat -> Bool) {n : Nat} (h : n < 32) : (nots f n).set n (.int .u8 ((255 - byte f n : Nat) : Int)) = nots f (n + 1) := by
  refine List.ext_getElem? fun j => ?_
  by_cases hj : j < 32
  · by_cases e : n = j
    · subst e; rw [List.getElem?_set_self (by rw [nots_len]; omega),nots_at _ h]; simp only [if_pos (Nat.lt_succ_self n)]; rw [<- byte_not]
    · rw [List.getElem?_set_ne e,nots_at _ hj,nots_at _ hj]
      by_cases c : j < n
      · simp only [if_pos c,if_pos (show j < n + 1 by omega)]
      · simp only [if_neg c,if_neg (show ¬ j < n + 1 by omega)]
  · rw [List.getElem?_eq_none (by rw [List.length_set,nots_len]; omega),List.getElem?_eq_none (by rw [nots_len]; omega)]
end Bk
end Go.K
namespace Go.K
theorem setL_all : ∀ (vs a : List Value),vs.length = a.length -> setL a 0 vs = vs := by
  have key : ∀ (vs a p : List Value),vs.length = a.length -> setL (p ++ a) p.length vs = p ++ vs := fun vs => by
    induction vs with
    | nil => intro a p h; obtain rfl := List.length_eq_zero_iff.1 h.symm; rfl
    | cons v vs ih =>
      intro a p h
      match a,h with
      | x :: a,h =>
        show setL ((p ++ x :: a).set p.length v) (p.length + 1) vs = _
        rw [List.set_append_right _ _ (Nat.le_refl _),Nat.sub_self,List.set_cons_zero]
        have := ih a (p ++ [v]) (by simpa using h)
        rw [List.append_assoc,List.length_append] at this
        rw [show p ++ v :: vs = p ++ [v] ++ vs by simp]
        exact this
  intro vs a h
  exact key vs a [] h
theorem cells_all {l : List Value} {z : Nat} (h : l.length = z) : cellsAt l.toArray 0 z = some l := by subst h; exact cellsAt_of l 0 fun o ho => by simp
section
variable {C : Cx} {V : Vw} {H : Hp} {L : Sl} {Q : Exit -> Act -> World -> Prop} {ops : Array Oper} {os : List Oper}
variable {ty : TypeId} {pos : String} {aft : Array Edge} {d : Nat}
theorem Y.ldA1 {x : Operand} {b : Nat} {m : Int} {l : List Value} {e t : TypeId} {fz : Nat × Nat} {v : Value} (i' : Nat) (hx : ev L x = some (.pointer (some ⟨b,0 + m.toNat * 1,none⟩))) (hm : m = (i' : Int)) (ht : scal C.P t = true) (hk : Kn V H b (.cells l.toArray e fz)) (hv : l[i']? = some v) : Yl C V H L (.load t x) ty v :=
  Y.load hx ht hk (by subst hm; simpa using hv)
theorem Y.ldAll {x : Operand} {b z : Nat} {l : List Value} {e t : TypeId} {fz : Nat × Nat} (hx : ev L x = some (.pointer (some ⟨b,0,none⟩))) (ht : aggsz C.P t = some z) (hk : Kn V H b (.cells l.toArray e fz)) (hz : l.length = z) : Yl C V H L (.load t x) ty (.agg l.toArray) :=
  Y.loadAgg hx ht hk (by subst hz; exact cellsAt_of l 0 fun o ho => by simp)
theorem Run.stA1 {x y : Operand} {b j : Nat} {m : Int} {l l2 : List Value} {e t : TypeId} {v : Value} (i' : Nat) (hx : ev L x = some (.pointer (some ⟨b,0 + m.toNat * 1,none⟩))) (hm : m = (i' : Int)) (hy : ev L y = some v) (ht : sizeT C.P t = some 1) (hi : H[j]? = some [(b,.cells l.toArray e (0,0))])
    (hv : v.cells = #[v]) (h1 : one v = true) (hl : i' < l.length) (hq : l.set i' v = l2) (k : Run C ops V (H.set j [(b,.cells l2.toArray e (0,0))]) L os Q) :
    Run C ops V H L (⟨none,.store t x y,ty,pos,aft,none⟩ :: os) Q := by
  subst hm
  exact Run.store hx hy ht hi (by rw [hv]; rfl) (by simp; omega) (by rw [hv]; simpa using h1) (by rw [hv]; subst hq; simp [setL]) k
theorem Run.stAll {x y : Operand} {b z j : Nat} {l l2 : List Value} {e t : TypeId} (hx : ev L x = some (.pointer (some ⟨b,0,none⟩))) (hy : ev L y = some (.agg l2.toArray)) (ht : sizeT C.P t = some z) (hi : H[j]? = some [(b,.cells l.toArray e (0,0))])
    (hz : l.length = z) (hz2 : l2.length = z) (h1 : l2.all one = true) (k : Run C ops V (H.set j [(b,.cells l2.toArray e (0,0))]) L os Q) :
    Run C ops V H L (⟨none,.store t x y,ty,pos,aft,none⟩ :: os) Q :=
  Run.store hx hy ht hi (by show l2.toArray.size = z; simpa using hz2) (by omega) (by show l2.toArray.toList.all one = true; simpa using h1) (by
    show [(b,Obj.cells (setL l 0 l2.toArray.toList).toArray e (0,0))] = _
    rw [show l2.toArray.toList = l2 by simp,setL_all l2 l (by omega)]) k
theorem Y.xor8 {x : Operand} {n : Nat} {t : TypeId} (hx : ev L x = some (.int .u8 ((n : Nat) : Int))) (hn : n < 256) : Yl C V H L (.unOp .xor t x) ty (.int .u8 ((255 - n : Nat) : Int)) := (fun V2 a w hle i o ho hty => by
  have key : ∀ n : Fin 256,IntKind.u8.wrap ((BitVec.ofInt IntKind.u8.bits IntKind.u8.max ^^^ BitVec.ofInt IntKind.u8.bits ((n.1 : Nat) : Int)).toNat : Int) = ((255 - n.1 : Nat) : Int) := by decide +kernel
  have := key ⟨n,hn⟩
  simp only at this
  simp only [execOp,ho,i.1.ev hx,Op.unary,Op.intBits]
  simpa [show IntKind.u8.signed = false from rfl] using this)
end
theorem or_u8 {a b : Nat} (ha : a < 256) (hb : b < 256) : IntKind.u8.wrap ((BitVec.ofInt IntKind.u8.bits (a : Int) ||| BitVec.ofInt IntKind.u8.bits (b : Int)).toNat : Int) = ((a ||| b : Nat) : Int) := by
  have hx : a ||| b < 256 := Nat.or_lt_two_pow (n := 8) ha hb
  rw [show IntKind.u8.bits = 8 from rfl,BitVec.toNat_or,BitVec.toNat_ofInt,BitVec.toNat_ofInt]
  rw [show ((a : Int) % ((2 ^ 8 : Nat) : Int)).toNat = a by omega,show ((b : Int) % ((2 ^ 8 : Nat) : Int)).toNat = b by omega]
  exact wrap_u8 (by omega)
theorem and1_u8 {a : Nat} (ha : a < 256) : IntKind.u8.wrap ((BitVec.ofInt IntKind.u8.bits (a : Int) &&& BitVec.ofInt IntKind.u8.bits 1).toNat : Int) = ((a % 2 : Nat) : Int) := by
  have key : ∀ n : Fin 256,IntKind.u8.wrap ((BitVec.ofInt IntKind.u8.bits ((n.1 : Nat) : Int) &&& BitVec.ofInt IntKind.u8.bits 1).toNat : Int) = ((n.1 % 2 : Nat) : Int) := by decide +kernel
  exact key ⟨a,ha⟩
theorem shl1_u8 {r : Nat} (h : r < 8) : IntKind.u8.wrap (1 * 2 ^ min (((r : Nat) : Int)).toNat IntKind.u8.bits) = ((2 ^ r : Nat) : Int) := by
  have key : ∀ r : Fin 8,IntKind.u8.wrap (1 * 2 ^ min (((r.1 : Nat) : Int)).toNat IntKind.u8.bits) = ((2 ^ r.1 : Nat) : Int) := by decide +kernel
  exact key ⟨r,h⟩
theorem shr_pow {r : Nat} (h : r < 8) : (2 : Int) ^ min (((r : Nat) : Int)).toNat IntKind.u8.bits = ((2 ^ r : Nat) : Int) := by
  have key : ∀ r : Fin 8,(2 : Int) ^ min (((r.1 : Nat) : Int)).toNat IntKind.u8.bits = ((2 ^ r.1 : Nat) : Int) := by decide +kernel
  exact key ⟨r,h⟩
theorem tdivN (a q : Nat) {k : Int} (e : k = (q : Int)) (h : a < 9223372036854775808) : IntKind.i64.wrap (((a : Nat) : Int).tdiv k) = ((a / q : Nat) : Int) := by
  subst e
  have h1 := Nat.div_le_self a q
  rw [Int.tdiv_eq_ediv_of_nonneg (Int.natCast_nonneg _),<- Int.natCast_ediv,wrap_i64]
  have h2 := Int.natCast_nonneg (a / q)
  omega
theorem tmodN (a q : Nat) {k : Int} (e : k = (q : Int)) : ((a : Nat) : Int).tmod k = ((a % q : Nat) : Int) := by
  subst e; rw [Int.tmod_eq_emod_of_nonneg (Int.natCast_nonneg _)]; rfl
namespace Bk
theorem low_lt (f : Nat -> Bool) (n : Nat) : byte (upto f n) (n / 8) < 2 ^ (n % 8) := by
  have hn : n = n / 8 * 8 + n % 8 := by omega
  have hr : n % 8 < 8 := Nat.mod_lt _ (by decide)
  generalize n / 8 = j at hn ⊢
  generalize n % 8 = r at hn hr ⊢
  subst hn
  rw [byte_upto]
  have key : ∀ (r : Fin 8) (a b c d e f g h : Bool),b8 (decide (0 < r.1) && a) (decide (1 < r.1) && b) (decide (2 < r.1) && c) (decide (3 < r.1) && d) (decide (4 < r.1) && e) (decide (5 < r.1) && f) (decide (6 < r.1) && g) (decide (7 < r.1) && h) < 2 ^ r.1 := by decide +kernel
  exact key ⟨r,hr⟩ ..
theorem pow_lt (n : Nat) : 2 ^ (n % 8) < 256 := Nat.pow_lt_pow_of_lt (a := 2) (m := 8) (by decide) (Nat.mod_lt _ (by decide))
theorem or_put {f : Nat -> Bool} {n : Nat} (h : f n = true) : byte (upto f n) (n / 8) ||| 2 ^ (n % 8) = byte (upto f n) (n / 8) + w2 (f n) (2 ^ (n % 8)) := by
  rw [h]
  have := Nat.two_pow_add_eq_or_of_lt (low_lt f n) 1
  rw [Nat.mul_one] at this
  rw [Nat.or_comm,<- this]; exact Nat.add_comm _ _
theorem wrap_pow (n : Nat) : IntKind.u8.wrap ((2 ^ (n % 8) : Nat) : Int) = ((2 ^ (n % 8) : Nat) : Int) := by
  have h := pow_lt n
  generalize 2 ^ (n % 8) = q at h ⊢
  exact wrap_u8 (by omega)
theorem one_mks (f : Nat -> Bool) : (mks f).all one = true := by
  unfold mks; rw [List.all_map,List.all_eq_true]; exact fun _ _ => rfl
theorem has_i (f : Nat -> Bool) (n : Nat) : (((byte f (n / 8) / 2 ^ (n % 8) % 2 : Nat) : Int) == 1) = f n := by
  rw [<- byte_has f n,Bool.eq_iff_iff,beq_iff_eq,beq_iff_eq]; omega
theorem part_lt (f : Nat -> Bool) (j i : Nat) : byte f j / 2 ^ i < 256 := Nat.lt_of_le_of_lt (Nat.div_le_self _ _) (byte_lt f j)
theorem add_u8 {f : Nat -> Bool} {n : Nat} (h : f n = true) : intRes .add .u8 ((byte (upto f n) (n / 8) : Nat) : Int) ((2 ^ (n % 8) : Nat) : Int) = some (.int .u8 ((byte (upto f n) (n / 8) + w2 (f n) (2 ^ (n % 8)) : Nat) : Int)) := by
  have h1 := byte_lt (upto f (n + 1)) (n / 8)
  rw [byte_put] at h1
  rw [h] at h1 ⊢
  have h1 : byte (upto f n) (n / 8) + 2 ^ (n % 8) < 256 := h1
  show some (Value.int .u8 (IntKind.u8.wrap (((byte (upto f n) (n / 8) : Nat) : Int) + ((2 ^ (n % 8) : Nat) : Int)))) = some (.int .u8 ((byte (upto f n) (n / 8) + 2 ^ (n % 8) : Nat) : Int))
  generalize 2 ^ (n % 8) = q at h1 ⊢
  rw [<- Int.natCast_add,wrap_u8 (by omega)]
theorem dbl {i : Nat} (h : i < 8) : intRes .mul .i64 ((2 ^ i : Nat) : Int) 2 = some (.int .i64 ((2 ^ (i + 1) : Nat) : Int)) := by
  have key : ∀ i : Fin 8,IntKind.i64.wrap (((2 ^ i.1 : Nat) : Int) * 2) = ((2 ^ (i.1 + 1) : Nat) : Int) := by decide +kernel
  exact congrArg (fun z => some (Value.int _ z)) (key ⟨i,h⟩)
theorem half (a i : Nat) : a / 2 ^ i / 2 = a / 2 ^ (i + 1) := by rw [Nat.div_div_eq_div_mul,Nat.pow_succ]
def fr (n : Int) : Nat -> Bool := fun k => decide ((k : Int) < n)
theorem fr_in {n : Int} {k : Nat} (h : (k : Int) < n) : fr n k = true := decide_eq_true h
theorem fr_all {n : Int} {i : Nat} (h : (i : Int) = min (max n 0) 256) : mks (upto (fr n) i) = mks (fr n) := mks_congr fun k hk => by
  unfold upto fr
  by_cases c : (k : Int) < n
  · rw [decide_eq_true c,decide_eq_true (show k < i by omega)]; rfl
  · rw [decide_eq_false c,Bool.and_false]
end Bk
end Go.K
namespace Go.K
theorem St.forget {B : World} {S : List Nat} {V V' : Vw} {H : Hp} {w : World} (h : St B S V V' H w) : St B S V V H w :=
  ⟨h.os,h.tape,h.output,h.size,h.fr,h.own,h.nd,h.dom,fun _ _ k => k,fun b o k => h.vh b o (h.le b o k),fun b o k => h.vd b o (h.le b o k),fun _ _ k => .inl k⟩
theorem Does.forget {P : Program} {f : FuncId} {args : List Value} {V : Vw} {H : Hp} {R R' : Value -> Vw -> Hp -> Prop} (h : Does P f args V H R) (k : ∀ v V' H',V.le V' -> R v V' H' -> R' v V H') : Does P f args V H R' :=
  ⟨h.1,fun B hB => (h.2 B hB).mono fun e w' ⟨v,V',H',q1,q2,q3⟩ => ⟨v,V,H',q1,k v V' H' q3.le q2,q3.forget⟩⟩
section
variable {C : Cx} {V : Vw} {H : Hp} {L : Sl} {Q : Exit -> Act -> World -> Prop} {ops : Array Oper} {os : List Oper}
variable {ty : TypeId} {pos : String} {aft : Array Edge} {d : Nat}
theorem Y.idxO {x y : Operand} {t e z n c : Nat} {T : TypeId} {p : Option Addr} {kk : IntKind} {m : Int} {xs : List Value} {s : Sg} (i : Nat) (hx : ev L x = some (.slice p n c)) (hy : ev L y = some (.int kk m)) (ht : elemS C.P t = some (e,z)) (ho : Ow T z (.slice p n c) n xs s)
    (hm : m = (i : Int)) (hi : i < n) : Yl C V H L (.indexAddr t x y) ty (elp p (i * z)) := by
  obtain ⟨b,off,cs,e',fz,rfl,_,_⟩ := (Ow.rd (V := V) (H := [s]) ho 0 rfl).at (by omega)
  subst hm
  exact Y.idxAddr hx hy ht (by omega) (by simpa using hi)
end
end Go.K
namespace Go.K
structure Si where
  id : Int
  lead : Int
  guard : Int
  server : Int
  want : Int
  most : Int
  first : Int
  part : Nat
  slack : Nat
  renew : Nat
  rebind : Nat
  pool : List Rg
  room : Int
namespace Si
def cells (x : Si) (pv : Value) : Array Value := #[.int .i64 x.id,.int .i64 x.lead,.int .i64 x.guard,.int .u32 x.server,.int .i64 x.want,.int .i64 x.most,.int .i64 x.first,.float .f64 x.part,.float .f64 x.slack,.float .f64 x.renew,.float .f64 x.rebind,pv,.int .i64 x.room]
def wi (n lo hi : Int) : Bool := decide (lo <= n /\ n <= hi)
def rules (x : Si) : Rul := ⟨x.id,x.lead,x.guard⟩
def nums (x : Si) : Prop := (0 <= x.id /\ x.id <= 1) /\ (0 <= x.lead /\ x.lead <= 1073741824) /\ (0 <= x.guard /\ x.guard <= 1073741824) /\ (1 <= x.want /\ x.want <= x.most) /\ x.most <= 1073741824 /\ (0 <= x.first /\ x.first <= 256) /\ (1 <= x.room /\ x.room <= 1048576)
instance (x : Si) : Decidable x.nums := by unfold nums; infer_instance
def right (x : Si) : Bool := decide ((Rg.pool x.pool).2 = 0 /\ x.nums)
theorem right_t {x : Si} : x.right = true ↔ (Rg.pool x.pool).2 = 0 /\ x.nums := by unfold right; rw [decide_eq_true_eq]
theorem right_n {x : Si} (h : ¬ ((Rg.pool x.pool).2 = 0 /\ x.nums)) : x.right = false := decide_eq_false h
end Si
structure An where
  send : Bool
  reply : Pc
  change : Bool
  lease : Le
  pot : Int
namespace An
def none : An := ⟨false,Cli.zeroP,false,Le.dflt,0⟩
def cells (a : An) (hv ov : Value) : Array Value := #[.bool a.send,.int .i64 a.reply.op,.int .u32 a.reply.xid,.int .i64 a.reply.secs,.int .i64 a.reply.flags,.int .u32 a.reply.ci,.int .u32 a.reply.yi,.int .u32 a.reply.si,.int .u32 a.reply.gi,hv,ov,.bool a.change,
  .int .u32 a.lease.addr,.int .i64 a.lease.bind,.string a.lease.client,.int .i64 a.lease.till,.int .i64 a.lease.acked,.int .i64 a.lease.told,.int .i64 a.lease.at_,.int .i64 a.lease.ver,.int .i64 a.pot]
end An
namespace Eg
def theirs (c : ByteArray) (l : Le) : Bool := l.bind == 2 && (l.client.toList == c.toList)
def time (x : Si) (c : ByteArray) (now want : Int) (l : Le) : Int := min (Ck.left now (x.rules.until_ now want (if theirs c l = true then l.acked else 0))) 4294967295
def bt (n : Int) : UInt8 := UInt8.ofNat (n % 256).toNat
def rep (x : Si) (p : Pc) (kind : Int) : Pc := ⟨2,p.xid,0,p.flags,if kind = 5 then p.ci else 0,0,x.server,p.gi,p.hw,[⟨53,[bt kind]⟩,⟨54,Msg.be 4 x.server⟩]⟩
def times (x : Si) (t : Int) : List Oc := [⟨51,Msg.be 4 t⟩,⟨58,Msg.be 4 (Fl.part t x.renew)⟩,⟨59,Msg.be 4 (max (Fl.part t x.renew) (Fl.part t x.rebind))⟩]
def prom (x : Si) (p : Pc) (kind a t : Int) : Pc := ⟨2,p.xid,0,p.flags,if kind = 5 then p.ci else 0,a,x.server,p.gi,p.hw,[⟨53,[bt kind]⟩,⟨54,Msg.be 4 x.server⟩] ++ times x t⟩
def mine (x : Si) (c : ByteArray) : Bool := if x.id = 1 then !decide (((Bk.bucket c.toList : Nat) : Int) < x.first) else decide (((Bk.bucket c.toList : Nat) : Int) < x.first)
def fst (q : Le -> Bool) (l : List Le) : Le × Bool := match l.find? q with
  | some y => (y,true)
  | .none => (Le.dflt,false)
def of (q : Le -> Bool) (l : List Le) (a : Int) : Le × Bool := ((Le.getE l a).1,(Le.getE l a).2 == 0 && q (Le.getE l a).1)
structure Qy where
  x : Si
  l : List Le
  state : Int
  now : Int
  entry : Int
  p : Pc
  client : ByteArray
  addr : Int
  want : Int
namespace Qy
def th (q : Qy) (l : Le) : Bool := theirs q.client l
def may (q : Qy) (l : Le) : Bool := q.x.rules.may l q.state q.now q.entry
def tm (q : Qy) (l : Le) : Int := time q.x q.client q.now q.want l
def pick (q : Qy) : Le × Bool := if (fst q.th q.l).2 = true then fst q.th q.l else if (of q.may q.l q.addr).2 = true then of q.may q.l q.addr else fst q.may q.l
def offer (q : Qy) (y : Le) : An := if q.tm y < 1 then An.none else ⟨true,prom q.x q.p 2 y.addr (q.tm y),false,Le.dflt,0⟩
def discover (q : Qy) : An := if q.state = 1 /\ mine q.x q.client = false then An.none else if q.pick.2 = true then q.offer q.pick.1 else An.none
def told (q : Qy) : Bool := (Oc.fd 54 q.p.os).length == 4
def server (q : Qy) : Int := val (Oc.fd 54 q.p.os)
def g (q : Qy) : Le × Int := Le.getE q.l q.addr
def has (q : Qy) : Bool := q.g.2 == 0 && (q.th q.g.1 || q.may q.g.1)
def gives (q : Qy) : Bool := q.has && decide (q.tm q.g.1 > 0)
def idle (q : Qy) : Bool := q.g.2 == 0 && (q.g.1.bind == 0 || q.g.1.bind == 1)
def nl (q : Qy) : Le := q.x.rules.lease q.g.1 q.client q.now q.want
def request (q : Qy) : An := if q.told = true /\ ¬ q.server = q.x.server then An.none else if q.gives = true then ⟨true,prom q.x q.p 5 q.addr (q.tm q.g.1),true,q.nl,Rul.potential q.nl q.now q.want⟩
  else if q.told = false /\ q.idle = true then An.none else ⟨true,rep q.x q.p 6,false,Le.dflt,0⟩
def decline (q : Qy) : An := if (of q.th q.l q.addr).2 = true then ⟨false,Cli.zeroP,true,Le.bare q.g.1.addr 5 q.g.1.ver,0⟩ else An.none
def release (q : Qy) : An := if (of q.th q.l q.p.ci).2 = true then ⟨false,Cli.zeroP,true,{ (Le.getE q.l q.p.ci).1 with bind := 4,at_ := q.now },0⟩ else An.none
def answer (q : Qy) : An := if q.p.kind = 1 then q.discover else if q.p.kind = 3 then q.request else if q.p.kind = 4 then q.decline else if q.p.kind = 7 then q.release else if q.p.kind = 8 then ⟨true,rep q.x q.p 5,false,Le.dflt,0⟩ else An.none
end Qy
def fits (x : Si) (state now : Int) (p : Pc) : Bool := x.right && (Rul.serves state && (Si.wi now 0 1099511627776 && (p.right && (p.op == 1))))
def qy (x : Si) (l : List Le) (state now entry : Int) (p : Pc) : Qy := ⟨x,l,state,now,entry,p,p.client,p.asked,min (if p.asks = 0 then x.want else p.asks) x.most⟩
def ans (x : Si) (l : List Le) (state now entry : Int) (p : Pc) : An := if fits x state now p = true then (qy x l state now entry p).answer else An.none
theorem ans_no {x : Si} {l : List Le} {state now entry : Int} {p : Pc} (h : fits x state now p = false) : ans x l state now entry p = An.none := if_neg (by rw [h]; decide)
theorem ans_yes {x : Si} {l : List Le} {state now entry : Int} {p : Pc} (h : fits x state now p = true) : ans x l state now entry p = (qy x l state now entry p).answer := if_pos h
theorem fst_at {q : Le -> Bool} : ∀ {l : List Le} {i : Nat},(∀ j,j < i -> q (l.getD j Le.dflt) = false) -> i < l.length -> q (l.getD i Le.dflt) = true -> fst q l = (l.getD i Le.dflt,true)
  | [],i,_,hi,_ => absurd hi (Nat.not_lt_zero i)
  | y :: l,0,_,_,hq => by
    have hq : q y = true := hq
    unfold fst; rw [List.find?_cons_of_pos hq]; rfl
  | y :: l,i + 1,h,hi,hq => by
    have h0 : q y = false := h 0 (by omega)
    have ih := fst_at (q := q) (l := l) (i := i) (fun j hj => h (j + 1) (by omega)) (by simpa using hi) hq
    unfold fst at ih ⊢; rw [List.find?_cons_of_neg (by rw [h0]; decide)]; exact ih
theorem fst_no {q : Le -> Bool} : ∀ {l : List Le},(∀ j,j < l.length -> q (l.getD j Le.dflt) = false) -> fst q l = (Le.dflt,false)
  | [],_ => rfl
  | y :: l,h => by
    have h0 : q y = false := h 0 (by simp)
    have ih := fst_no (q := q) (l := l) fun j hj => h (j + 1) (by simpa using hj)
    unfold fst at ih ⊢; rw [List.find?_cons_of_neg (by rw [h0]; decide)]; exact ih
theorem fst_is {q : Le -> Bool} {l : List Le} (h : (fst q l).2 = true) : (fst q l).1 ∈ l /\ q (fst q l).1 = true := by
  unfold fst at h ⊢
  cases hf : l.find? q with
  | none => rw [hf] at h; cases h
  | some y => exact ⟨List.mem_of_find?_eq_some hf,List.find?_some hf⟩
theorem of_is {q : Le -> Bool} {l : List Le} {a : Int} (h : (of q l a).2 = true) : (Le.getE l a).2 = 0 /\ q (Le.getE l a).1 = true := by
  unfold of at h; simpa using h
theorem tm_le (q : Qy) (y : Le) : q.tm y <= 4294967295 := by unfold Qy.tm time; omega
theorem tm_nn (q : Qy) (y : Le) : 0 <= q.tm y := by
  have := Ck.mo_bd (Ck.mo (q.x.rules.until_ q.now q.want (if theirs q.client y = true then y.acked else 0)) - Ck.mo q.now)
  unfold Qy.tm time Ck.left; omega
end Eg
end Go.K
namespace Go.K
theorem Kn.shown {V2 : Vw} {b : Nat} {o : Obj} (h : ∀ b' o',([(b,o)] : Sg).lookup b' = some o' -> V2 b' = some o') : Kn V2 [] b o := .inl (h b o (by simp [List.lookup]))
abbrev le0 : Array Value := (Le.cells Le.dflt).toArray
abbrev an0 : Array Value := An.cells An.none (.slice none 0 0) (.slice none 0 0)
namespace Eg
def Qy.cells (q : Qy) (pv : Value) (tx : Nat) (hv ov : Value) : Array Value := #[.int .i64 q.x.id,.int .i64 q.x.lead,.int .i64 q.x.guard,.int .u32 q.x.server,.int .i64 q.x.want,.int .i64 q.x.most,.int .i64 q.x.first,.float .f64 q.x.part,.float .f64 q.x.slack,.float .f64 q.x.renew,.float .f64 q.x.rebind,pv,.int .i64 q.x.room,
  .int .i64 q.x.id,.int .i64 q.x.lead,.int .i64 q.x.guard,.pointer (some ⟨tx,0,none⟩),.int .i64 q.state,.int .i64 q.now,.int .i64 q.entry,
  .int .i64 q.p.op,.int .u32 q.p.xid,.int .i64 q.p.secs,.int .i64 q.p.flags,.int .u32 q.p.ci,.int .u32 q.p.yi,.int .u32 q.p.si,.int .u32 q.p.gi,hv,ov,.string q.client,.int .u32 q.addr,.int .i64 q.want]
theorem time_is (q : Qy) (l : Le) : q.tm l = min (Ck.left q.now (q.x.rules.until_ q.now q.want (if theirs q.client l = true then l.acked else 0))) 4294967295 := rfl
theorem tm_y {q : Qy} {l : Le} (h : q.th l = true) : min (Ck.left q.now (q.x.rules.until_ q.now q.want l.acked)) 4294967295 = q.tm l := by
  rw [time_is,if_pos (show theirs q.client l = true from h)]
theorem tm_n {q : Qy} {l : Le} (h : q.th l = false) : min (Ck.left q.now (q.x.rules.until_ q.now q.want 0)) 4294967295 = q.tm l := by
  rw [time_is,if_neg (by rw [show theirs q.client l = false from h]; decide)]
theorem mine_y {q : Qy} (h : q.x.id = 1) : (fun k => !Bk.fr q.x.first k) (Bk.bucket q.client.toList) = mine q.x q.client := by unfold mine Bk.fr; rw [if_pos h]
theorem mine_n {q : Qy} (h : ¬ q.x.id = 1) : Bk.fr q.x.first (Bk.bucket q.client.toList) = mine q.x q.client := by unfold mine Bk.fr; rw [if_neg h]
theorem buk_lt (l : List UInt8) : Bk.bucket l < 256 := Bk.down_lt l 0
theorem disc_no {q : Qy} (h : q.state = 1) (k : mine q.x q.client = false) : q.discover = An.none := if_pos ⟨h,k⟩
theorem disc_of {q : Qy} (h : ¬ q.state = 1 \/ mine q.x q.client = true) : q.discover = if q.pick.2 = true then q.offer q.pick.1 else An.none := if_neg fun hc => by
  rcases h with h | h
  · exact h hc.1
  · rw [hc.2] at h; cases h
theorem disc_1 {q : Qy} (h : ¬ q.state = 1 \/ mine q.x q.client = true) (k : (fst q.th q.l).2 = true) : q.discover = q.offer (fst q.th q.l).1 := by
  rw [disc_of h,show q.pick = fst q.th q.l from if_pos k,if_pos k]
theorem disc_2 {q : Qy} (h : ¬ q.state = 1 \/ mine q.x q.client = true) (k : (fst q.th q.l).2 = false) (m : (of q.may q.l q.addr).2 = true) : q.discover = q.offer (of q.may q.l q.addr).1 := by
  rw [disc_of h,show q.pick = of q.may q.l q.addr from (if_neg (by rw [k]; decide)).trans (if_pos m),if_pos m]
theorem disc_3 {q : Qy} (h : ¬ q.state = 1 \/ mine q.x q.client = true) (k : (fst q.th q.l).2 = false) (m : (of q.may q.l q.addr).2 = false) : q.discover = if (fst q.may q.l).2 = true then q.offer (fst q.may q.l).1 else An.none := by
  rw [disc_of h,show q.pick = fst q.may q.l from (if_neg (by rw [k]; decide)).trans (if_neg (by rw [m]; decide))]
theorem offer_no {q : Qy} {y : Le} (h : q.tm y < 1) : q.offer y = An.none := if_pos h
theorem offer_is {q : Qy} {y : Le} (h : ¬ q.tm y < 1) : q.offer y = ⟨true,prom q.x q.p 2 y.addr (q.tm y),false,Le.dflt,0⟩ := if_neg h
theorem req_other {q : Qy} (h : q.told = true) (k : ¬ q.server = q.x.server) : q.request = An.none := if_pos ⟨h,k⟩
theorem req_mine {q : Qy} (h : q.told = false \/ q.server = q.x.server) : q.request = if q.gives = true then ⟨true,prom q.x q.p 5 q.addr (q.tm q.g.1),true,q.nl,Rul.potential q.nl q.now q.want⟩
    else if q.told = false /\ q.idle = true then An.none else ⟨true,rep q.x q.p 6,false,Le.dflt,0⟩ := if_neg fun hc => by
  rcases h with h | h
  · rw [hc.1] at h; cases h
  · exact hc.2 h
theorem req_gives {q : Qy} (h : q.told = false \/ q.server = q.x.server) (k : q.gives = true) : q.request = ⟨true,prom q.x q.p 5 q.addr (q.tm q.g.1),true,q.nl,Rul.potential q.nl q.now q.want⟩ := (req_mine h).trans (if_pos k)
theorem req_idle {q : Qy} (h : q.told = false) (k : q.gives = false) (m : q.idle = true) : q.request = An.none := (req_mine (.inl h)).trans ((if_neg (by rw [k]; decide)).trans (if_pos ⟨h,m⟩))
theorem req_nak {q : Qy} (h : q.told = false \/ q.server = q.x.server) (k : q.gives = false) (m : q.told = true \/ q.idle = false) : q.request = ⟨true,rep q.x q.p 6,false,Le.dflt,0⟩ := (req_mine h).trans ((if_neg (by rw [k]; decide)).trans (if_neg fun hc => by
  rcases m with m | m
  · rw [hc.1] at m; cases m
  · rw [hc.2] at m; cases m))
end Eg
namespace Eg
structure Qok (V : Vw) (q : Qy) (hv ov : Value) : Prop where
  hw : Rd V [] 1 hv q.p.hw.length (q.p.hw.map byteV)
  os : Pc.Rs V ov q.p.os
  few : Oc.few q.p.os = true
  hl : q.p.hw.length < 1000
  xid : 0 <= q.p.xid /\ q.p.xid <= 4294967295
  ad : 0 <= q.addr /\ q.addr <= 4294967295
  sv : 0 <= q.x.server /\ q.x.server <= 4294967295
  la : ∀ y,y ∈ q.l -> 0 <= y.addr /\ y.addr <= 4294967295
  cl : q.client.size <= 9223372036854775807
theorem Qok.le {V V2 : Vw} {q : Qy} {hv ov : Value} (h : Qok V q hv ov) (hl : V.le V2) : Qok V2 q hv ov := ⟨h.hw.le hl,h.os.le hl,h.few,h.hl,h.xid,h.ad,h.sv,h.la,h.cl⟩
theorem Qok.forms {V : Vw} {q : Qy} {hv ov : Value} (h : Qok V q hv ov) : (∃ p c,hv = .slice p q.p.hw.length c) /\ ∃ p n c,ov = .slice p n c := by
  obtain ⟨p,c,rfl,_⟩ := h.hw.form
  obtain ⟨L,_,ho,_⟩ := h.os
  obtain ⟨p2,c2,rfl,_⟩ := ho.form
  exact ⟨⟨p,c,rfl⟩,p2,_,c2,rfl⟩
theorem asked_bd {p : Pc} (h : 0 <= p.ci /\ p.ci <= 4294967295) : 0 <= p.asked /\ p.asked <= 4294967295 := by
  unfold Pc.asked
  split
  · rename_i hl; exact Cli.val4 hl
  · exact h
theorem client_sz {p : Pc} (hf : p.few = true) : p.client.size <= 9223372036854775807 := by
  simp only [Pc.few,Bool.and_eq_true,decide_eq_true_eq] at hf
  unfold Pc.client
  split
  · rename_i h; show (Oc.fd 61 p.os).toArray.size <= _; rw [List.size_toArray]; omega
  · show p.hw.toArray.size <= _; rw [List.size_toArray]; omega
theorem qok_of {V : Vw} {x : Si} {l : List Le} {p : Pc} {hv ov : Value} {state now entry : Int} (hp : Pc.R V p hv ov) (hf : p.few = true) (hci : 0 <= p.ci /\ p.ci <= 4294967295) (hsv : 0 <= x.server /\ x.server <= 4294967295) (hla : ∀ y,y ∈ l -> 0 <= y.addr /\ y.addr <= 4294967295) : Qok V (qy x l state now entry p) hv ov :=
  have h2 := hf
  ⟨hp.hw,hp.os,by simp only [Pc.few,Bool.and_eq_true] at h2; exact h2.1,by simp only [Pc.few,Bool.and_eq_true,decide_eq_true_eq] at h2; show p.hw.length < 1000; omega,hp.xid,asked_bd hci,hsv,hla,client_sz hf⟩
theorem ans_1 {q : Qy} (h : q.p.kind = 1) : q.answer = q.discover := if_pos h
theorem ans_3 {q : Qy} (h : q.p.kind = 3) : q.answer = q.request := by unfold Qy.answer; rw [if_neg (by omega),if_pos h]
theorem ans_4 {q : Qy} (h : q.p.kind = 4) : q.answer = q.decline := by unfold Qy.answer; rw [if_neg (by omega),if_neg (by omega),if_pos h]
theorem ans_7 {q : Qy} (h : q.p.kind = 7) : q.answer = q.release := by unfold Qy.answer; rw [if_neg (by omega),if_neg (by omega),if_neg (by omega),if_pos h]
theorem ans_8 {q : Qy} (h : q.p.kind = 8) : q.answer = ⟨true,rep q.x q.p 5,false,Le.dflt,0⟩ := by unfold Qy.answer; rw [if_neg (by omega),if_neg (by omega),if_neg (by omega),if_neg (by omega),if_pos h]
theorem ans_0 {q : Qy} (h : ¬ q.p.kind = 1) (h3 : ¬ q.p.kind = 3) (h4 : ¬ q.p.kind = 4) (h7 : ¬ q.p.kind = 7) (h8 : ¬ q.p.kind = 8) : q.answer = An.none := by unfold Qy.answer; rw [if_neg h,if_neg h3,if_neg h4,if_neg h7,if_neg h8]
theorem fits_y {x : Si} {state now : Int} {p : Pc} (h1 : x.right = true) (h2 : Rul.serves state = true) (h3 : decide (0 <= now /\ now <= 1099511627776) = true) (h4 : p.right = true) (h5 : p.op = 1) : fits x state now p = true := by
  unfold fits Si.wi; rw [h1,h2,h3,h4,h5]; rfl
theorem fits_n {x : Si} {state now : Int} {p : Pc} (h : x.right = false \/ Rul.serves state = false \/ decide (0 <= now /\ now <= 1099511627776) = false \/ p.right = false \/ ¬ p.op = 1) : fits x state now p = false := by
  cases hc : fits x state now p with
  | false => rfl
  | true =>
    unfold fits Si.wi at hc
    simp only [Bool.and_eq_true,beq_iff_eq] at hc
    obtain ⟨a,b,c,d,e⟩ := hc
    rcases h with h | h | h | h | h
    · rw [a] at h; cases h
    · rw [b] at h; cases h
    · rw [c] at h; cases h
    · rw [d] at h; cases h
    · exact absurd e h
theorem fst_la {q : Le -> Bool} {l : List Le} (h : (fst q l).2 = true) (k : ∀ y,y ∈ l -> 0 <= y.addr /\ y.addr <= 4294967295) : 0 <= (fst q l).1.addr /\ (fst q l).1.addr <= 4294967295 := k _ (fst_is h).1
theorem getE_mem {l : List Le} {a : Int} (h : (Le.getE l a).2 = 0) : (Le.getE l a).1 ∈ l /\ (Le.getE l a).1.addr = a := by
  unfold Le.getE at h ⊢
  cases hg : Le.get l a with
  | none => rw [hg] at h; cases h
  | some y =>
    unfold Le.get at hg
    exact ⟨List.mem_of_find?_eq_some hg,by have := List.find?_some hg; simpa using this⟩
theorem of_la {q : Le -> Bool} {l : List Le} {a : Int} (h : (of q l a).2 = true) (k : ∀ y,y ∈ l -> 0 <= y.addr /\ y.addr <= 4294967295) : 0 <= (of q l a).1.addr /\ (of q l a).1.addr <= 4294967295 := k _ (getE_mem (of_is h).1).1
theorem gives_no {q : Qy} (h : (of (fun l => q.th l || q.may l) q.l q.addr).2 = false \/ ¬ q.tm (of (fun l => q.th l || q.may l) q.l q.addr).1 > 0) : q.gives = false := by
  unfold Qy.gives Qy.has
  rcases h with h | h
  · unfold of at h; rw [show (q.g.2 == 0 && (q.th q.g.1 || q.may q.g.1)) = false from h]; rfl
  · rw [decide_eq_false (show ¬ q.tm q.g.1 > 0 from h),Bool.and_false]
def Qy.shut (q : Qy) : Bool := q.state == 1 && !mine q.x q.client
theorem shut_t {q : Qy} (h : q.shut = true) : q.discover = An.none := by
  unfold Qy.shut at h; simp only [Bool.and_eq_true,beq_iff_eq,Bool.not_eq_true'] at h; exact disc_no h.1 h.2
theorem shut_f {q : Qy} (h : q.shut = false) : ¬ q.state = 1 \/ mine q.x q.client = true := by
  unfold Qy.shut at h; simp only [Bool.and_eq_false_iff,beq_eq_false_iff_ne,Bool.not_eq_false'] at h; exact h
def Qy.oth (q : Qy) : Bool := q.told && !(q.server == q.x.server)
theorem oth_t {q : Qy} (h : q.oth = true) : q.request = An.none := by
  unfold Qy.oth at h; simp only [Bool.and_eq_true,Bool.not_eq_true',beq_eq_false_iff_ne] at h; exact req_other h.1 h.2
theorem oth_f {q : Qy} (h : q.oth = false) : q.told = false \/ q.server = q.x.server := by
  unfold Qy.oth at h; simp only [Bool.and_eq_false_iff,Bool.not_eq_false',beq_iff_eq] at h; exact h
theorem oth_n {q : Qy} (h : q.told = false) : false = q.oth := by unfold Qy.oth; rw [h]; rfl
theorem oth_y {q : Qy} {s : Int} (h : q.told = true) (k : q.told = true -> s = q.server) : (s != q.x.server) = q.oth := by unfold Qy.oth; rw [h,k h]; rfl
theorem gives_eq {q : Qy} (h : (of (fun l => q.th l || q.may l) q.l q.addr).2 = true) : decide (q.tm (of (fun l => q.th l || q.may l) q.l q.addr).1 > 0) = q.gives := by
  unfold Qy.gives Qy.has; unfold of at h; rw [show (q.g.2 == 0 && (q.th q.g.1 || q.may q.g.1)) = true from h]; rfl
theorem gives_ha {q : Qy} (h : q.has = true) : (!decide (q.tm q.g.1 < 1)) = q.gives := by
  unfold Qy.gives; rw [h,Bool.true_and,<- decide_not]; exact decide_eq_decide.2 (by omega)
theorem gives_nh {q : Qy} (h : q.has = false) : false = q.gives := by unfold Qy.gives; rw [h]; rfl
def Qy.mum (q : Qy) : Bool := !q.told && q.idle
theorem mum_t {q : Qy} (h : q.mum = true) : q.told = false /\ q.idle = true := by
  unfold Qy.mum at h; simp only [Bool.and_eq_true,Bool.not_eq_true'] at h; exact h
theorem mum_f {q : Qy} (h : q.mum = false) : q.told = true \/ q.idle = false := by
  unfold Qy.mum at h; simp only [Bool.and_eq_false_iff,Bool.not_eq_false'] at h; exact h
end Eg
structure Cn where
  code : Int
  n : Int
namespace Cn
def dflt : Cn := ⟨0,0⟩
def cells (c : Cn) : List Value := [.int .i64 c.code,.int .i64 c.n]
theorem enc : Enc cells 2 := ⟨fun _ => rfl,fun _ => rfl⟩
theorem len (c : Cn) : c.cells.length = 2 := rfl
def oc (c : Cn) : Oc := ⟨c.code,Msg.be 4 c.n⟩
def Fine (l : List Cn) : Prop := ∀ c,c ∈ l -> 0 <= c.n /\ c.n <= 4294967295
theorem Fine.at {l : List Cn} (h : Fine l) {i : Nat} (hi : i < l.length) : 0 <= (l.getD i dflt).n /\ (l.getD i dflt).n <= 4294967295 := h _ (by rw [List.getD_eq_getElem?_getD,List.getElem?_eq_getElem hi]; exact List.getElem_mem hi)
theorem fine1 {c n : Int} (h : 0 <= n /\ n <= 4294967295) : Fine [⟨c,n⟩] := fun x hx => by rw [List.mem_singleton] at hx; subst hx; exact h
theorem fine3 {a b c m n o : Int} (h : 0 <= m /\ m <= 4294967295) (k : 0 <= n /\ n <= 4294967295) (l : 0 <= o /\ o <= 4294967295) : Fine [⟨a,m⟩,⟨b,n⟩,⟨c,o⟩] := fun x hx => by
  simp only [List.mem_cons,List.mem_nil_iff,or_false] at hx
  rcases hx with rfl | rfl | rfl
  · exact h
  · exact k
  · exact l
theorem take_oc {l : List Cn} {i : Nat} (h : i < l.length) : (l.take (i + 1)).map oc = (l.take i).map oc ++ [oc (l.getD i dflt)] := by
  rw [take_succ_getD l i dflt h,List.map_append]; rfl
end Cn
theorem Opn.flat (L : List Opn) : (L.map Opn.cells).flatten = L.flatMap Opn.cells := (List.flatMap_def ..).symm
theorem Opn.Rds.snoc {V : Vw} {L : List Opn} {o : Opn} (h : Opn.Rds V L) (ho : Rd V [] 1 o.v o.d.length (o.d.map byteV)) : Opn.Rds V (L ++ [o]) := fun x hx => by
  rcases List.mem_append.1 hx with hx | hx
  · exact h x hx
  · rw [List.mem_singleton] at hx; subst hx; exact ho
theorem Opn.Rds.one {V : Vw} {o : Opn} (h : Rd V [] 1 o.v o.d.length (o.d.map byteV)) : Opn.Rds V [o] := fun x hx => by rw [List.mem_singleton] at hx; subst hx; exact h
theorem Pc.rs_of {V : Vw} {ov : Value} {L : List Opn} {os : List Oc} (h1 : Rd V [] 2 ov L.length (L.flatMap Opn.cells)) (h2 : Opn.Rds V L) (h3 : L.map Opn.c = os) : Pc.Rs V ov os := ⟨L,h3,by rw [Opn.flat]; exact h1,h2⟩
end Go.K
namespace Go.K
namespace Eg
def si (id : Int) : Si := ⟨id,10,4,9,100,1000,256,4602678819172646912,4591870180066957722,4602678819172646912,4606056518893174784,[⟨1,6⟩],10000⟩
theorem pool6 : Rg.pool [⟨1,6⟩] = ([⟨1,6⟩],0) := by decide +kernel
theorem adr6 : Rg.adr [⟨1,6⟩] = [1,2,3,4,5,6] := by decide +kernel
theorem oks6 : Rg.Oks [⟨1,6⟩] := by
  intro r hr
  obtain rfl := List.mem_singleton.1 hr
  exact ⟨by decide,by decide,by decide,by decide⟩
def pa : Pc := ⟨1,7,0,0,0,0,0,0,[3],[⟨53,[1]⟩]⟩
def aa : An := ans (si 0) (Le.new [1,2,3,4,5,6]) 1 5 0 pa
theorem aw_send : aa.send = true := by decide +kernel
theorem aw_yi : aa.reply.yi = 1 := by decide +kernel
theorem aw_kind : aa.reply.kind = 2 := by decide +kernel
theorem aw_change : aa.change = false := by decide +kernel
theorem aw_few : aa.reply.few = true := by decide +kernel
theorem pa_few : pa.few = true := by decide
theorem get_of_mem {l : List Le} (hr : Le.Ris l) {y : Le} (h : y ∈ l) : Le.getE l y.addr = (y,0) := by
  have : Le.get l y.addr = some y := by
    unfold Le.get
    induction l with
    | nil => cases h
    | cons x l ih =>
      obtain ⟨h1,h2⟩ := List.pairwise_cons.1 hr
      rcases List.mem_cons.1 h with rfl | h
      · rw [List.find?_cons_of_pos (by simp)]
      · rw [List.find?_cons_of_neg (by have := h1 y h; simp; omega)]; exact ih h2 h
  unfold Le.getE; rw [this]
theorem get_self {l : List Le} {a : Int} (h : (Le.getE l a).2 = 0) : Le.getE l (Le.getE l a).1.addr = ((Le.getE l a).1,0) := by
  have := (getE_mem h).2
  rw [this]; exact Prod.ext rfl h
def Good (q : Qy) (y : Le) : Prop := Le.getE q.l y.addr = (y,0) /\ (q.th y = true \/ q.may y = true) /\ 1 <= q.tm y
theorem ans_cases {q : Qy} (hr : Le.Ris q.l) : q.answer = An.none \/ (∃ m,q.answer = ⟨false,Cli.zeroP,true,m,0⟩ /\ (m.bind = 4 \/ m.bind = 5)) \/ (∃ k,q.answer = ⟨true,rep q.x q.p k,false,Le.dflt,0⟩ /\ (k = 5 \/ k = 6)) \/
    (∃ y,q.answer = ⟨true,prom q.x q.p 2 y.addr (q.tm y),false,Le.dflt,0⟩ /\ Good q y) \/ (∃ y,q.answer = ⟨true,prom q.x q.p 5 y.addr (q.tm y),true,q.x.rules.lease y q.client q.now q.want,Rul.potential (q.x.rules.lease y q.client q.now q.want) q.now q.want⟩ /\ Good q y) := by
  have off : ∀ y,Le.getE q.l y.addr = (y,0) -> (q.th y = true \/ q.may y = true) -> q.offer y = An.none \/ ∃ z,q.offer y = ⟨true,prom q.x q.p 2 z.addr (q.tm z),false,Le.dflt,0⟩ /\ Good q z := fun y h1 h2 => by
    by_cases h : q.tm y < 1
    · exact .inl (offer_no h)
    · exact .inr ⟨y,offer_is h,h1,h2,by omega⟩
  have fin : ∀ {a : An},(a = An.none \/ ∃ z,a = ⟨true,prom q.x q.p 2 z.addr (q.tm z),false,Le.dflt,0⟩ /\ Good q z) -> a = An.none \/ (∃ m,a = ⟨false,Cli.zeroP,true,m,0⟩ /\ (m.bind = 4 \/ m.bind = 5)) \/ (∃ k,a = ⟨true,rep q.x q.p k,false,Le.dflt,0⟩ /\ (k = 5 \/ k = 6)) \/
      (∃ y,a = ⟨true,prom q.x q.p 2 y.addr (q.tm y),false,Le.dflt,0⟩ /\ Good q y) \/ (∃ y,a = ⟨true,prom q.x q.p 5 y.addr (q.tm y),true,q.x.rules.lease y q.client q.now q.want,Rul.potential (q.x.rules.lease y q.client q.now q.want) q.now q.want⟩ /\ Good q y) := fun h => by
    rcases h with h | ⟨z,h,g⟩
    · exact .inl h
    · exact .inr (.inr (.inr (.inl ⟨z,h,g⟩)))
  by_cases k1 : q.p.kind = 1
  · rw [ans_1 k1]
    refine fin ?_
    by_cases hs : q.state = 1 /\ mine q.x q.client = false
    · exact .inl (disc_no hs.1 hs.2)
    · have hA : ¬ q.state = 1 \/ mine q.x q.client = true := by
        by_cases h1 : q.state = 1
        · right; cases hm : mine q.x q.client with
          | true => rfl
          | false => exact absurd ⟨h1,hm⟩ hs
        · exact .inl h1
      cases f1 : (fst q.th q.l).2 with
      | true => rw [disc_1 hA f1]; exact off _ (get_of_mem hr (fst_is f1).1) (.inl (fst_is f1).2)
      | false =>
        cases f2 : (of q.may q.l q.addr).2 with
        | true => rw [disc_2 hA f1 f2]; exact off _ (get_self (of_is f2).1) (.inr (of_is f2).2)
        | false =>
          rw [disc_3 hA f1 f2]
          cases f3 : (fst q.may q.l).2 with
          | true => rw [if_pos rfl]; exact off _ (get_of_mem hr (fst_is f3).1) (.inr (fst_is f3).2)
          | false => rw [if_neg (by decide)]; exact .inl rfl
  by_cases k3 : q.p.kind = 3
  · rw [ans_3 k3]
    by_cases ho : q.told = true /\ ¬ q.server = q.x.server
    · exact .inl (req_other ho.1 ho.2)
    · have hM : q.told = false \/ q.server = q.x.server := by
        cases ht : q.told with
        | false => exact .inl rfl
        | true => right; exact Decidable.byContradiction fun hc => ho ⟨ht,hc⟩
      cases hg : q.gives with
      | true =>
        have hg2 := hg
        unfold Qy.gives Qy.has at hg2
        simp only [Bool.and_eq_true,Bool.or_eq_true,beq_iff_eq,decide_eq_true_eq] at hg2
        have ha : q.g.1.addr = q.addr := (getE_mem hg2.1.1).2
        rw [req_gives hM hg]
        refine .inr (.inr (.inr (.inr ⟨q.g.1,by rw [ha]; rfl,get_self hg2.1.1,hg2.1.2,by omega⟩)))
      | false =>
        by_cases hi : q.told = false /\ q.idle = true
        · exact .inl (req_idle hi.1 hg hi.2)
        · exact .inr (.inr (.inl ⟨6,req_nak hM hg (by
            cases ht : q.told with
            | true => exact .inl rfl
            | false => right; cases hi2 : q.idle with
              | false => rfl
              | true => exact absurd ⟨ht,hi2⟩ hi),.inr rfl⟩))
  by_cases k4 : q.p.kind = 4
  · rw [ans_4 k4]
    unfold Qy.decline
    split
    · exact .inr (.inl ⟨_,rfl,.inr rfl⟩)
    · exact .inl rfl
  by_cases k7 : q.p.kind = 7
  · rw [ans_7 k7]
    unfold Qy.release
    split
    · exact .inr (.inl ⟨_,rfl,.inl rfl⟩)
    · exact .inl rfl
  by_cases k8 : q.p.kind = 8
  · rw [ans_8 k8]; exact .inr (.inr (.inl ⟨5,rfl,.inl rfl⟩))
  · exact .inl (ans_0 k1 k3 k4 k7 k8)
end Eg
end Go.K
namespace Go.K
namespace Eg
theorem put_addrs (l : List Le) (q : Le) : (Le.put l q).map Le.addr = l.map Le.addr := by
  unfold Le.put
  rw [List.map_map]
  refine List.map_congr_left fun x _ => ?_
  show (if x.addr = q.addr then q else x).addr = x.addr
  split
  · rename_i h; exact h.symm
  · rfl
theorem setE_addrs (l : List Le) (q : Le) : (Le.setE l q).2.map Le.addr = l.map Le.addr := by
  unfold Le.setE
  split
  · rfl
  · split
    · rfl
    · exact put_addrs l q
theorem new_addrs (as_ : List Int) : (Le.new as_).map Le.addr = as_ := by unfold Le.new; rw [List.map_map]; exact List.map_id _
theorem la_of {l : List Le} {rs : List Rg} (h : l.map Le.addr = Rg.adr (Rg.pool rs).1) (hok : Rg.Oks rs) : ∀ y,y ∈ l -> 0 <= y.addr /\ y.addr <= 4294967295 := fun y hy => by
  have hm : y.addr ∈ Rg.adr (Rg.pool rs).1 := by rw [<- h]; exact List.mem_map_of_mem hy
  obtain ⟨r,hr,h1,h2⟩ := Rg.mem_adr.1 hm
  have h3 := Rg.pool_oks hok r hr
  obtain ⟨a,b,c,d⟩ := h3
  omega
theorem la6 {l : List Le} (h : l.map Le.addr = [1,2,3,4,5,6]) : ∀ y,y ∈ l -> 1 <= y.addr /\ y.addr <= 6 := fun y hy => by
  have hm : y.addr ∈ [1,2,3,4,5,6] := by rw [<- h]; exact List.mem_map_of_mem hy
  simp only [List.mem_cons,List.mem_nil_iff,or_false] at hm
  omega
def Ab (l : List Le) : Prop := ∀ y,y ∈ l -> 0 <= y.acked /\ y.acked <= 1099511627776
theorem new_ab (as_ : List Int) : Ab (Le.new as_) := fun y hy => by
  obtain ⟨a,_,rfl⟩ := List.mem_map.1 hy
  exact ⟨Int.le_refl 0,(by decide : (0 : Int) <= 1099511627776)⟩
theorem setE_ab {l : List Le} (h : Ab l) (q : Le) : Ab (Le.setE l q).2 := by
  unfold Le.setE
  split
  · exact h
  · rename_i hr
    have hr : Le.right q = true := by simpa using hr
    split
    · exact h
    · intro y hy
      obtain ⟨z,hz,rfl⟩ := List.mem_map.1 hy
      split
      · exact (Le.right_iff.1 hr).2.1
      · exact h z hz
def long (p : Pc) (ls : List Le) (np : Nat) : Bool := (ls.any fun x => decide (x.client.size > 100)) || (!p.few || (decide (ls.length > 100) || decide (np > 20)))
theorem long_f {p : Pc} {ls : List Le} {np : Nat} (h : long p ls np = false) : p.few = true /\ ls.length <= 100 /\ np <= 20 := by
  unfold long at h
  simp only [Bool.or_eq_false_iff,decide_eq_false_iff_not,Bool.not_eq_false'] at h
  exact ⟨h.2.1,by omega,by omega⟩
theorem long_at {p : Pc} {ls : List Le} {np i : Nat} (hi : i < ls.length) (h : (ls.getD i Le.dflt).client.size > 100) : long p ls np = true := by
  unfold long
  rw [List.any_eq_true.2 ⟨ls.getD i Le.dflt,by rw [List.getD_eq_getElem?_getD,List.getElem?_eq_getElem hi]; exact List.getElem_mem hi,decide_eq_true h⟩,Bool.true_or]
theorem long_no {p : Pc} {ls : List Le} {np : Nat} (h : ∀ j,j < ls.length -> ¬ (ls.getD j Le.dflt).client.size > 100) : long p ls np = (!p.few || (decide (ls.length > 100) || decide (np > 20))) := by
  unfold long
  rw [show (ls.any fun x => decide (x.client.size > 100)) = false from List.any_eq_false.2 fun x hx => by
    obtain ⟨j,hj,rfl⟩ := List.getElem_of_mem hx
    have := h j hj
    rw [List.getD_eq_getElem?_getD,List.getElem?_eq_getElem hj] at this
    simpa using this,Bool.false_or]
structure Cs where
  state : Int
  now : Int
  entry : Int
  p : Pc
  hv : Value
  ov : Value
def Cs.cells (c : Cs) : Array Value := #[.int .i64 c.state,.int .i64 c.now,.int .i64 c.entry,.int .i64 c.p.op,.int .u32 c.p.xid,.int .i64 c.p.secs,.int .i64 c.p.flags,.int .u32 c.p.ci,.int .u32 c.p.yi,.int .u32 c.p.si,.int .u32 c.p.gi,c.hv,c.ov]
def sa (x : Si) (l : List Le) (c : Cs) : An := ans x l c.state c.now c.entry c.p
def sq (x : Si) (l : List Le) (c : Cs) : Qy := qy x l c.state c.now c.entry c.p
inductive Case (x : Si) (l : List Le) (c : Cs) : An -> Prop
  | none : Case x l c An.none
  | note (m : Le) : (m.bind = 4 \/ m.bind = 5) -> fits x c.state c.now c.p = true -> Case x l c ⟨false,Cli.zeroP,true,m,0⟩
  | rep (k : Int) : (k = 5 \/ k = 6) -> fits x c.state c.now c.p = true -> Case x l c ⟨true,Eg.rep x c.p k,false,Le.dflt,0⟩
  | offer (y : Le) : Good (sq x l c) y -> fits x c.state c.now c.p = true -> Case x l c ⟨true,prom x c.p 2 y.addr ((sq x l c).tm y),false,Le.dflt,0⟩
  | ack (y : Le) : Good (sq x l c) y -> fits x c.state c.now c.p = true -> Case x l c ⟨true,prom x c.p 5 y.addr ((sq x l c).tm y),true,x.rules.lease y c.p.client c.now (sq x l c).want,Rul.potential (x.rules.lease y c.p.client c.now (sq x l c).want) c.now (sq x l c).want⟩
theorem cases (x : Si) {l : List Le} (hr : Le.Ris l) (c : Cs) : Case x l c (sa x l c) := by
  unfold sa
  cases hf : fits x c.state c.now c.p with
  | false => rw [ans_no hf]; exact .none
  | true =>
    rw [ans_yes hf]
    rcases ans_cases (q := qy x l c.state c.now c.entry c.p) hr with h | ⟨m,h,k⟩ | ⟨k,h,k2⟩ | ⟨y,h,g⟩ | ⟨y,h,g⟩ <;> rw [h]
    · exact .none
    · exact .note m k hf
    · exact .rep k k2 hf
    · exact .offer y g hf
    · exact .ack y g hf
variable {x : Si} {l : List Le} {c : Cs} {y : Le}
theorem Case.eq {A : An} (h : Case x l c A) : A = An.none \/ (∃ m : Le,(m.bind = 4 \/ m.bind = 5) /\ fits x c.state c.now c.p = true /\ A = ⟨false,Cli.zeroP,true,m,0⟩) \/ (∃ k : Int,(k = 5 \/ k = 6) /\ fits x c.state c.now c.p = true /\ A = ⟨true,Eg.rep x c.p k,false,Le.dflt,0⟩) \/
    (∃ y,Good (sq x l c) y /\ fits x c.state c.now c.p = true /\ A = ⟨true,prom x c.p 2 y.addr ((sq x l c).tm y),false,Le.dflt,0⟩) \/
    (∃ y,Good (sq x l c) y /\ fits x c.state c.now c.p = true /\ A = ⟨true,prom x c.p 5 y.addr ((sq x l c).tm y),true,x.rules.lease y c.p.client c.now (sq x l c).want,Rul.potential (x.rules.lease y c.p.client c.now (sq x l c).want) c.now (sq x l c).want⟩) := by
  cases h with
  | none => exact .inl rfl
  | note m a b => exact .inr (.inl ⟨m,a,b,rfl⟩)
  | rep k a b => exact .inr (.inr (.inl ⟨k,a,b,rfl⟩))
  | offer y a b => exact .inr (.inr (.inr (.inl ⟨y,a,b,rfl⟩)))
  | ack y a b => exact .inr (.inr (.inr (.inr ⟨y,a,b,rfl⟩)))
theorem few_len {p : Pc} (h : p.few = true) : p.os.length <= 1000000 := by
  simp only [Pc.few,Bool.and_eq_true] at h
  have := (Oc.few_iff.1 h.1).1; omega
end Eg
end Go.K

/- What a contact is, and what it does: plain definitions.
Conditions: none; no program in sight. -/
import Derived.Test.YtinkencbkcciiaaGreatMA
import Derived.Test.YtinkencbkcciiaaGreatKB
set_option linter.unusedSimpArgs false
set_option linter.unusedVariables false
set_option linter.unusedSectionVars false
namespace Go.K
structure Con where
  mine : Int
  known : Int
  hello : Int
  st : Int
  said : Int
  at_ : Int
  up : Bool
namespace Con
def a (c : Con) : Array Value := #[.int .i64 c.known,.int .i64 c.hello,.int .i64 c.st,.int .i64 c.mine,.int .i64 c.said,.int .i64 c.at_,.bool c.up]
def b (c : Con) : Array Value := #[.int .i64 c.mine,.int .i64 c.known,.int .i64 c.said,.int .i64 c.hello,.int .i64 c.st,.int .i64 c.at_,.bool c.up]
def new (life : Int) : Con := ⟨life,0,0,0,0,0,false⟩
structure Inv (c : Con) : Prop where
  mine : 1 ≤ c.mine ∧ c.mine ≤ 536870912
  said : 0 ≤ c.said ∧ c.said ≤ 1073741824
  at_ : 0 ≤ c.at_ ∧ c.at_ ≤ 1099511627776
def moment (n : Int) : Bool := decide (n ≥ 0) && decide (n ≤ 1099511627776)
def fits (c : Con) (m : Msg) : Bool :=
  if m.kind = 1 then decide (m.life > c.known) || ((m.life == c.known) && decide (m.xid > c.hello)) else c.up && ((m.life == c.known) && (m.seen == c.mine))
def mark (c : Con) (m : Msg) : Msg := { m with life := c.mine,seen := c.known }
def takeC (c : Con) (m : Msg) (now : Int) : Con :=
  if moment now && (Msg.right m && fits c m) then
    if m.kind = 1 then { c with at_ := now,known := m.life,hello := m.xid,st := m.state,up := (m.seen == c.mine) || (c.up && !(c.known != m.life)) } else { c with at_ := now }
  else c
def lost (c : Con) (now : Int) : Bool := moment now && (c.up && decide (now - c.at_ ≥ 6))
def tickC (c : Con) (now : Int) : Con := if lost c now then { c with up := false } else c
def helloE (c : Con) (state : Int) : Int := if state < 0 ∨ state > 8 then 1 else if c.said ≥ 1073741824 then 3 else 0
def helloC (c : Con) (state : Int) : Con := if helloE c state = 0 then { c with said := c.said + 1 } else c
def helloM (c : Con) (state : Int) : Msg := if helloE c state = 0 then mark c ⟨1,0,0,c.said + 1,state,0,0,⟨#[]⟩,0,0,false⟩ else ⟨0,0,0,0,0,0,0,⟨#[]⟩,0,0,false⟩
theorem inv_new {life : Int} (h : 1 ≤ life ∧ life ≤ 536870912) : Inv (new life) := ⟨h,by simp [new],by simp [new]⟩
theorem helloE_lt {c : Con} {s : Int} (h : helloE c s = 0) : c.said < 1073741824 ∧ 0 ≤ s ∧ s ≤ 8 := by
  unfold helloE at h
  split at h
  · cases h
  · split at h
    · cases h
    · omega
theorem inv_hello {c : Con} (h : Inv c) (s : Int) : Inv (helloC c s) := by
  unfold helloC; split
  · rename_i he
    have := helloE_lt he
    exact ⟨h.mine,⟨by have := h.said; simp only; omega,by simp only; omega⟩,h.at_⟩
  · exact h
theorem helloE_0 {c : Con} {s : Int} (h : ¬ (s < 0 ∨ s > 8)) (h2 : ¬ c.said ≥ 1073741824) : helloE c s = 0 := (if_neg h).trans (if_neg h2)
theorem hello_yes {c : Con} {s : Int} (h : helloE c s = 0) : helloC c s = { c with said := c.said + 1 } ∧ helloM c s = mark c ⟨1,0,0,c.said + 1,s,0,0,⟨#[]⟩,0,0,false⟩ := ⟨if_pos h,if_pos h⟩
structure Stp where
  do_ : Int
  now : Int
  n : Int
  m : Msg
def Stp.cells (s : Stp) : List Value := .int .i64 s.do_ :: .int .i64 s.now :: .int .i64 s.n :: s.m.cells.toList
def step (c : Con) (s : Stp) : Con := if s.do_ = 0 then takeC c s.m s.now else if s.do_ = 1 then tickC c s.now else if s.do_ = 2 then helloC c s.n else c
end Con
end Go.K
namespace Go.K
namespace Con
def stags : List (Nat × IntKind) := (0,.i64) :: (0,.i64) :: (0,.i64) :: Msg.tags11
theorem Stp.len (s : Stp) : s.cells.length = 14 := rfl
def Stp.dflt : Stp := ⟨0,0,0,Msg.zero⟩
theorem Stp.of_wf {q : List Value} (h : wfVs stags q) : ∃ s : Stp,q = s.cells ∧ (-9223372036854775808 ≤ s.n ∧ s.n ≤ 9223372036854775807) := by
  obtain ⟨v0,c0,rfl,h0,k0⟩ := wfVs_cons (show wfVs ((0,IntKind.i64) :: (0,IntKind.i64) :: (0,IntKind.i64) :: Msg.tags11) q from h)
  obtain ⟨v1,c1,rfl,h1,k1⟩ := wfVs_cons k0
  obtain ⟨v2,c2,rfl,h2,k2⟩ := wfVs_cons k1
  obtain ⟨n0,rfl,w0⟩ := wfV_int h0
  obtain ⟨n1,rfl,w1⟩ := wfV_int h1
  obtain ⟨n2,rfl,w2⟩ := wfV_int h2
  obtain ⟨m,hm,_⟩ := Msg.of_wf k2
  exact ⟨⟨n0,n1,n2,m⟩,by show _ = _ :: _ :: _ :: m.cells.toList; rw [← hm],Go.bounds_i64 w2⟩
theorem hello_mine (c : Con) (s : Int) : (helloC c s).mine = c.mine ∧ (helloC c s).known = c.known := by
  unfold helloC; split <;> exact ⟨rfl,rfl⟩
section
variable {l0 l1 now : Int} (h0 : 1 ≤ l0 ∧ l0 ≤ 536870912) (h1 : 1 ≤ l1 ∧ l1 ≤ 536870912) (hn : 0 ≤ now ∧ now ≤ 549755813888)
include h0 h1 hn
omit h0 h1 in
omit h0 h1 in
end
end Con
end Go.K
namespace Go.K
def Msg.rowc (m : Msg) : List Value := m.cells.toList
namespace Con
structure Ev where
  do_ : Int
  who : Int
  n : Int
def Ev.cells (s : Ev) : List Value := [.int .i64 s.do_,.int .i64 s.who,.int .i64 s.n]
def etags : List (Nat × IntKind) := [(0,.i64),(0,.i64),(0,.i64)]
theorem Ev.len (s : Ev) : s.cells.length = 3 := rfl
def Ev.dflt : Ev := ⟨0,0,0⟩
theorem Ev.of_wf {q : List Value} (h : wfVs etags q) : ∃ s : Ev,q = s.cells := by
  obtain ⟨v0,c0,rfl,h0,k0⟩ := wfVs_cons (show wfVs ((0,IntKind.i64) :: (0,IntKind.i64) :: (0,IntKind.i64) :: []) q from h)
  obtain ⟨v1,c1,rfl,h1,k1⟩ := wfVs_cons k0
  obtain ⟨v2,c2,rfl,h2,k2⟩ := wfVs_cons k1
  obtain ⟨n0,rfl,w0⟩ := wfV_int h0
  obtain ⟨n1,rfl,w1⟩ := wfV_int h1
  obtain ⟨n2,rfl,w2⟩ := wfV_int h2
  have : c2 = [] := List.eq_nil_of_length_eq_zero (by simpa using wfVs_len k2)
  subst this
  exact ⟨⟨n0,n1,n2⟩,rfl⟩
structure Sd where
  b : Nat
  c : Con
  m : Int
  p : Option Addr
  n : Nat
  k : Nat
  q : Sg
  xs : List Value
  l : List Msg
  a : Int
  d : Int
structure Sd.ok (e : TypeId) (s t : Sd) (i : Nat) : Prop where
  inv : s.c.Inv
  mine : s.c.mine = s.m
  own : Ow e 11 (.slice s.p s.n s.k) s.n s.xs s.q
  flat : s.xs = (s.l.map Msg.rowc).flatten
  len : s.n = s.l.length
  ha : s.a = s.c.known
  hd : s.d = s.c.hello
  known : s.c.known ≤ t.m
  life : ∀ m ∈ s.l,m.life ≤ s.m
  few : s.m ≤ i + 1
  one : 1 ≤ s.m
  said : s.c.said ≤ i
  many : s.n ≤ i
variable {e : TypeId} {s t : Sd} {i : Nat}
theorem Sd.first {b : Nat} {t : Sd} (ht : 1 ≤ t.m) : Sd.ok e ⟨b,new 1,1,none,0,0,[],[],[],0,0⟩ t 0 :=
  ⟨inv_new (by decide),rfl,Ow.nil _ _,rfl,rfl,rfl,rfl,by show (0 : Int) ≤ t.m; omega,(fun _ h => by cases h),(show (1 : Int) ≤ ((0 : Nat) : Int) + 1 by decide),(show (1 : Int) ≤ 1 by decide),(show (0 : Int) ≤ ((0 : Nat) : Int) by decide),Nat.le_refl 0⟩
theorem Sd.ok.rest (h : Sd.ok e s t i) {t' : Sd} (ht : t.m ≤ t'.m) : Sd.ok e s t' (i + 1) :=
  ⟨h.inv,h.mine,h.own,h.flat,h.len,h.ha,h.hd,Int.le_trans h.known ht,h.life,by have := h.few; omega,h.one,by have := h.said; omega,by have := h.many; omega⟩
theorem Sd.ok.say (h : Sd.ok e s t i) {c' : Con} {m' : Msg} {p : Option Addr} {n k : Nat} {q : Sg} {xs : List Value} (h1 : c'.Inv) (h2 : c'.mine = s.c.mine) (h3 : c'.known = s.c.known) (h4 : c'.hello = s.c.hello) (h5 : c'.said ≤ i + 1)
    (hm : m'.life = s.m) (ho : Ow e 11 (.slice p n k) n xs q) (hx : xs = s.xs ++ m'.rowc) (hn : n = s.n + 1) : Sd.ok e ⟨s.b,c',s.m,p,n,k,q,xs,s.l ++ [m'],s.a,s.d⟩ t (i + 1) :=
  ⟨h1,h2.trans h.mine,ho,by rw [hx,h.flat,List.map_append,List.flatten_append]; simp,by simp only [List.length_append,List.length_singleton]; rw [hn,h.len],h.ha.trans h3.symm,h.hd.trans h4.symm,by show c'.known ≤ t.m; rw [h3]; exact h.known,
    fun m hm' => by
      rcases List.mem_append.1 hm' with hm' | hm'
      · exact h.life m hm'
      · rw [List.mem_singleton] at hm'; subst hm'; exact Int.le_of_eq hm,
    by have := h.few; show s.m ≤ ((i + 1 : Nat) : Int) + 1; omega,h.one,by show c'.said ≤ ((i + 1 : Nat) : Int); omega,by have := h.many; show n ≤ i + 1; omega⟩
theorem hello_know (c : Con) (st : Int) : (helloC c st).hello = c.hello ∧ (helloC c st).said ≤ c.said + 1 := by
  unfold helloC; split
  · exact ⟨rfl,by simp only; omega⟩
  · exact ⟨rfl,by omega⟩
theorem Sd.ok.hello (h : Sd.ok e s t i) {st : Int} (hE : helloE s.c st = 0) {p : Option Addr} {n k : Nat} {q : Sg} {xs : List Value} (ho : Ow e 11 (.slice p n k) n xs q) (hx : xs = s.xs ++ (helloM s.c st).rowc) (hn : n = s.n + 1) :
    Sd.ok e ⟨s.b,helloC s.c st,s.m,p,n,k,q,xs,s.l ++ [helloM s.c st],s.a,s.d⟩ t (i + 1) :=
  h.say (inv_hello h.inv _) (hello_mine _ _).1 (hello_mine _ _).2 (hello_know _ _).1 (by have := (hello_know s.c st).2; have := h.said; omega) (by rw [(hello_yes hE).2]; exact h.mine) ho hx hn
theorem Sd.ok.mark (h : Sd.ok e s t i) (m0 : Msg) {p : Option Addr} {n k : Nat} {q : Sg} {xs : List Value} (ho : Ow e 11 (.slice p n k) n xs q) (hx : xs = s.xs ++ (Con.mark s.c m0).rowc) (hn : n = s.n + 1) :
    Sd.ok e ⟨s.b,s.c,s.m,p,n,k,q,xs,s.l ++ [Con.mark s.c m0],s.a,s.d⟩ t (i + 1) :=
  h.say h.inv rfl rfl rfl (by have := h.said; omega) h.mine ho hx hn
theorem Sd.ok.is (h : Sd.ok e s t i) {c' : Con} {a d : Int} (h1 : c'.Inv) (h2 : c'.mine = s.c.mine) (h3 : c'.known ≤ t.m) (ha : a = c'.known) (hd : d = c'.hello) (h5 : c'.said = s.c.said) : Sd.ok e ⟨s.b,c',s.m,s.p,s.n,s.k,s.q,s.xs,s.l,a,d⟩ t (i + 1) :=
  ⟨h1,h2.trans h.mine,h.own,h.flat,h.len,ha,hd,h3,h.life,by have := h.few; show s.m ≤ ((i + 1 : Nat) : Int) + 1; omega,h.one,by have := h.said; show c'.said ≤ ((i + 1 : Nat) : Int); omega,by have := h.many; show s.n ≤ i + 1; omega⟩
theorem Sd.ok.anew (h : Sd.ok e s t i) {b : Nat} (hi : i ≤ 250) (ht : 1 ≤ t.m) : Sd.ok e ⟨b,new (s.m + 1),s.m + 1,s.p,s.n,s.k,s.q,s.xs,s.l,0,0⟩ t (i + 1) := by
  have h1 := h.few
  have h2 := h.one
  exact ⟨inv_new (by omega),rfl,h.own,h.flat,h.len,rfl,rfl,by show (0 : Int) ≤ t.m; omega,fun m hm => by have := h.life m hm; show m.life ≤ s.m + 1; omega,by show s.m + 1 ≤ ((i + 1 : Nat) : Int) + 1; omega,by show 1 ≤ s.m + 1; omega,
    by show (0 : Int) ≤ ((i + 1 : Nat) : Int); omega,by have := h.many; show s.n ≤ i + 1; omega⟩
theorem Sd.ok.helloE (h : Sd.ok e s t i) (hi : i < 250) {st : Int} (hs : 0 ≤ st ∧ st < 8) : helloE s.c st = 0 := by
  have := h.said
  exact helloE_0 (by omega) (by omega)
end Con
end Go.K

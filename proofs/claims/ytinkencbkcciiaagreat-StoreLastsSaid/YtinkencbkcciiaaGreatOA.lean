/- Options and packets: what they are, and what is reckoned of them, in plain Lean.
Conditions: none; no program in sight. -/
import Derived.Test.YtinkencbkcciiaaGreatMA
import Derived.Test.YtinkencbkcciiaaGreatKB
import Derived.Test.YtinkencbkcciiaaGreatCA
set_option linter.unusedSimpArgs false
set_option linter.unusedVariables false
set_option linter.unusedSectionVars false
namespace Go.K
structure Oc where
  code : Int
  d : List UInt8
structure Opn where
  code : Int
  v : Value
  d : List UInt8
def Opn.c (o : Opn) : Oc := ⟨o.code,o.d⟩
def Opn.cells (o : Opn) : List Value := [.int .i64 o.code,o.v]
theorem Opn.len (o : Opn) : o.cells.length = 2 := rfl
def Opn.dflt : Opn := ⟨0,.slice none 0 0,[]⟩
def Opn.Rds (V : Vw) (L : List Opn) : Prop := ∀ o,o ∈ L → Rd V [] 1 o.v o.d.length (o.d.map byteV)
theorem Opn.Rds.le {V V2 : Vw} {L : List Opn} (h : Opn.Rds V L) (hl : V.le V2) : Opn.Rds V2 L := fun o ho => (h o ho).le hl
namespace Oc
def dflt : Oc := ⟨0,[]⟩
def odd (o : Oc) : Bool := decide (o.code ≤ 0) || (decide (o.code ≥ 255) || decide (((o.d.length : Nat) : Int) > 255))
def is (c : Int) (o : Oc) : Bool := o.code == c
def ix (q : Oc → Bool) : List Oc → Int
  | [] => -1
  | o :: l => if q o = true then 0 else if ix q l < 0 then -1 else ix q l + 1
def fd (c : Int) : List Oc → List UInt8
  | [] => []
  | o :: l => if (o.code == c) = true then o.d else fd c l
def has (c : Int) (l : List Oc) : Bool := l.any fun o => o.code == c
def tot : List Oc → Nat
  | [] => 0
  | o :: l => 2 + o.d.length + tot l
def encE (l : List Oc) : Int := if l.any odd = true then 1 else if tot l + 1 > 1024 then 3 else 0
def few (l : List Oc) : Bool := decide (l.length ≤ 100) && l.all fun o => decide (o.d.length ≤ 1000)
theorem ix_at {q : Oc → Bool} : ∀ {l : List Oc} {i : Nat},(∀ j,j < i → q (l.getD j dflt) = false) → i < l.length → q (l.getD i dflt) = true → ix q l = i
  | [],_,_,hi,_ => by simp at hi
  | o :: l,0,_,_,hq => by simp only [ix]; rw [if_pos (by simpa using hq)]; rfl
  | o :: l,i + 1,h,hi,hq => by
    have h0 := h 0 (by omega)
    have ih := ix_at (q := q) (l := l) (i := i) (fun j hj => by have := h (j + 1) (by omega); simpa using this) (by simpa using hi) (by simpa using hq)
    simp only [ix]
    rw [if_neg (by have : q o = false := by simpa using h0
                   simp [this]),ih,if_neg (by omega)]
    omega
end Oc
structure Pc where
  op : Int
  xid : Int
  secs : Int
  flags : Int
  ci : Int
  yi : Int
  si : Int
  gi : Int
  hw : List UInt8
  os : List Oc
namespace Pc
def cells (p : Pc) (hv ov : Value) : Array Value := #[.int .i64 p.op,.int .u32 p.xid,.int .i64 p.secs,.int .i64 p.flags,.int .u32 p.ci,.int .u32 p.yi,.int .u32 p.si,.int .u32 p.gi,hv,ov]
def Rs (V : Vw) (ov : Value) (os : List Oc) : Prop := ∃ L : List Opn,L.map Opn.c = os ∧ Rd V [] 2 ov L.length (L.map Opn.cells).flatten ∧ Opn.Rds V L
structure R (V : Vw) (p : Pc) (hv ov : Value) : Prop where
  hw : Rd V [] 1 hv p.hw.length (p.hw.map byteV)
  os : Rs V ov p.os
  xid : 0 ≤ p.xid ∧ p.xid ≤ 4294967295
  yi : 0 ≤ p.yi ∧ p.yi ≤ 4294967295
  si : 0 ≤ p.si ∧ p.si ≤ 4294967295
theorem Rs.le {V V2 : Vw} {ov : Value} {os : List Oc} (h : Rs V ov os) (hl : V.le V2) : Rs V2 ov os := by
  obtain ⟨L,h1,h2,h3⟩ := h; exact ⟨L,h1,h2.le hl,h3.le hl⟩
theorem R.le {V V2 : Vw} {p : Pc} {hv ov : Value} (h : R V p hv ov) (hl : V.le V2) : R V2 p hv ov := ⟨h.hw.le hl,h.os.le hl,h.xid,h.yi,h.si⟩
def few (p : Pc) : Bool := Oc.few p.os && decide (((p.hw.length : Nat) : Int) < 1000)
def right (p : Pc) : Bool := ((p.op == 1) || (p.op == 2)) && (decide (1 ≤ p.hw.length) && (decide (p.hw.length ≤ 16) && (decide (0 ≤ p.secs) && (decide (p.secs ≤ 65535) && (decide (0 ≤ p.flags) && (decide (p.flags ≤ 65535) && (Oc.encE p.os == 0)))))))
def num (p : Pc) (c other : Int) : Int := if (Oc.fd c p.os).length = 4 then val (Oc.fd c p.os) else other
def kind (p : Pc) : Int := if (Oc.fd 53 p.os).length = 1 then val (Oc.fd 53 p.os) else 0
end Pc
theorem Rd.none {V : Vw} {H : Hp} {k n c : Nat} {xs : List Value} (h : Rd V H k (.slice none n c) n xs) : n = 0 := by
  obtain ⟨_,p,c',h2,_,h4⟩ := h
  rcases h4 with h4 | ⟨b,off,cs,e,fz,a1,_⟩
  · exact h4
  · cases h2; cases a1
section
variable {C : Cx} {V : Vw} {H : Hp} {L : Sl} {ty : TypeId}
def sliceT (P : Program) (t : TypeId) : Bool := match P.underlying t with
  | some (.slice _) => true
  | _ => false
theorem run_equal_nilS {P : Program} {w : World} {t : TypeId} (ht : sliceT P t = true) (p : Option Addr) (n c : Nat) : (Op.equal t (.slice p n c) (.slice none 0 0)).run P w = .ok p.isNone w := by
  have hu : ∃ e,P.underlying t = some (.slice e) := by
    unfold sliceT at ht; split at ht
    · exact ⟨_,‹_›⟩
    · cases ht
  obtain ⟨e,hu⟩ := hu
  unfold Op.equal
  rw [show Op.maxDepth = 9999 + 1 from rfl,Op.equalIn]
  cases p <;> simp [run_underlying hu]
theorem Y.eqNilS {x y : Operand} {t t' : TypeId} {p : Option Addr} {n c : Nat} (hx : ev L x = some (.slice p n c)) (hy : ev L y = some (.slice none 0 0)) (ht : sliceT C.P t = true) : Yl C V H L (.binOp .eql t x y t') ty (.bool p.isNone) := (fun V2 a w hle i o ho hty => by
  have hg : (eqGuard .eql t x y (.slice p n c) (.slice none 0 0)).run C.P w = .ok () w := by cases p <;> rfl
  simp only [execOp,ho,i.1.ev hx,i.1.ev hy,Sem.run_bind,hg,Result.andThen_ok,binOp,run_equal_nilS ht,Sem.run_pure])
end
theorem Rd.move {V : Vw} {H H' : Hp} {k : Nat} {v : Value} {n : Nat} {xs : List Value} (h : Rd V H k v n xs) (hk : ∀ b o,Kn V H b o → Kn V H' b o) : Rd V H' k v n xs := by
  obtain ⟨h1,p,c,h2,h3,h4⟩ := h
  refine ⟨h1,p,c,h2,h3,?_⟩
  rcases h4 with h4 | ⟨b,off,cs,e,fz,a1,a2,a3⟩
  · exact .inl h4
  · exact .inr ⟨b,off,cs,e,fz,a1,hk _ _ a2,a3⟩
structure Gr where
  p : Option Addr
  n : Nat
  k : Nat
  q : Sg
  xs : List Value
  i : Nat
namespace Oc
end Oc
namespace Oc
end Oc
end Go.K

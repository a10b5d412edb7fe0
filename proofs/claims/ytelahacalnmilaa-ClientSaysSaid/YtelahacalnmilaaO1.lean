/- Options and packets: what they are, and what is reckoned of them, in plain Lean.
Conditions: none; no program in sight. -/
import Derived.Test.YtelahacalnmilaaM8
import Derived.Test.YtelahacalnmilaaK19
import Derived.Test.YtelahacalnmilaaC3
set_option linter.unusedSimpArgs false
namespace Go.K
theorem upto {P : Nat → Prop} {i : Nat} (h : ∀ j, j < i → P j) (hi : P i) : ∀ j, j < i + 1 → P j := fun j hj => by
  by_cases e : j = i
  · subst e; exact hi
  · exact h j (by omega)
/-- An option, as it is told; and as it lies. -/
structure Oc where
  code : Int
  d : List UInt8
structure Opn where
  code : Int
  v : Value
  d : List UInt8
def Opn.c (o : Opn) : Oc := ⟨o.code, o.d⟩
def Opn.cells (o : Opn) : List Value := [.int .i64 o.code, o.v]
theorem Opn.len (o : Opn) : o.cells.length = 2 := rfl
def Opn.dflt : Opn := ⟨0, .slice none 0 0, []⟩
def Opn.Rds (V : Vw) (L : List Opn) : Prop := ∀ o, o ∈ L → Rd V [] 1 o.v o.d.length (o.d.map byteV)
theorem Opn.Rds.le {V V2 : Vw} {L : List Opn} (h : Opn.Rds V L) (hl : V.le V2) : Opn.Rds V2 L := fun o ho => (h o ho).le hl
namespace Oc
def dflt : Oc := ⟨0, []⟩
def odd (o : Oc) : Bool := decide (o.code ≤ 0) || (decide (o.code ≥ 255) || decide (((o.d.length : Nat) : Int) > 255))
def is (c : Int) (o : Oc) : Bool := o.code == c
/-- Where the first such one is; below 0: nowhere. -/
def ix (q : Oc → Bool) : List Oc → Int
  | [] => -1
  | o :: l => if q o = true then 0 else if ix q l < 0 then -1 else ix q l + 1
/-- The data of the first one of a code. -/
def fd (c : Int) : List Oc → List UInt8
  | [] => []
  | o :: l => if (o.code == c) = true then o.d else fd c l
def has (c : Int) (l : List Oc) : Bool := l.any fun o => o.code == c
def tot : List Oc → Nat
  | [] => 0
  | o :: l => 2 + o.d.length + tot l
def encE (l : List Oc) : Int := if l.any odd = true then 1 else if tot l + 1 > 1024 then 3 else 0
def few (l : List Oc) : Bool := decide (l.length ≤ 100) && l.all fun o => decide (o.d.length ≤ 1000)
theorem ix_ge (q : Oc → Bool) : ∀ l, -1 ≤ ix q l ∧ ix q l < l.length
  | [] => by simp [ix]
  | o :: l => by
    have := ix_ge q l
    simp only [ix, List.length_cons]
    split
    · omega
    · split <;> omega
theorem ix_at {q : Oc → Bool} : ∀ {l : List Oc} {i : Nat}, (∀ j, j < i → q (l.getD j dflt) = false) → i < l.length → q (l.getD i dflt) = true → ix q l = i
  | [], _, _, hi, _ => by simp at hi
  | o :: l, 0, _, _, hq => by simp only [ix]; rw [if_pos (by simpa using hq)]; rfl
  | o :: l, i + 1, h, hi, hq => by
    have h0 := h 0 (by omega)
    have ih := ix_at (q := q) (l := l) (i := i) (fun j hj => by have := h (j + 1) (by omega); simpa using this) (by simpa using hi) (by simpa using hq)
    simp only [ix]
    rw [if_neg (by have : q o = false := by simpa using h0
                   simp [this]), ih, if_neg (by omega)]
    omega
theorem ix_none {q : Oc → Bool} : ∀ {l : List Oc}, (∀ j, j < l.length → q (l.getD j dflt) = false) → ix q l = -1
  | [], _ => rfl
  | o :: l, h => by
    have h0 := h 0 (by simp)
    have ih := ix_none (q := q) (l := l) (fun j hj => by have := h (j + 1) (by simpa using hj); simpa using this)
    simp only [ix]
    rw [if_neg (by have : q o = false := by simpa using h0
                   simp [this]), ih]
    rfl
theorem ix_any' (q : Oc → Bool) : ∀ l, ix q l ≥ 0 ↔ l.any q = true
  | [] => by simp [ix]
  | o :: l => by
    have ih := ix_any' q l
    have hg := ix_ge q l
    rw [List.any_cons, Bool.or_eq_true, ← ih]
    by_cases hq : q o = true
    · rw [show ix q (o :: l) = 0 from if_pos hq]; simp [hq]
    · rw [show ix q (o :: l) = if ix q l < 0 then -1 else ix q l + 1 from if_neg hq]
      split
      · exact ⟨fun h => by omega, fun h => h.elim (fun h => absurd h hq) (fun h => by omega)⟩
      · exact ⟨fun h => .inr (by omega), fun _ => by omega⟩
theorem ix_any (q : Oc → Bool) (l : List Oc) : decide (ix q l ≥ 0) = l.any q := by
  rw [Bool.eq_iff_iff, decide_eq_true_eq]; exact ix_any' q l
theorem ix_cases (c : Int) : ∀ l, (ix (is c) l = -1 ∧ fd c l = [] ∧ has c l = false) ∨ ∃ i : Nat, ix (is c) l = i ∧ i < l.length ∧ fd c l = (l.getD i dflt).d ∧ has c l = true
  | [] => .inl ⟨rfl, rfl, rfl⟩
  | o :: l => by
    cases hq : is c o
    · have hc : (o.code == c) = false := hq
      rcases ix_cases c l with ⟨h1, h2, h3⟩ | ⟨i, h1, h2, h3, h4⟩
      · refine .inl ⟨by simp only [ix]; rw [if_neg (by simp [hq]), h1]; rfl, by simp only [fd]; rw [if_neg (by simp [hc])]; exact h2, by simp only [has, List.any_cons] at *; rw [hc, h3]; rfl⟩
      · refine .inr ⟨i + 1, by simp only [ix]; rw [if_neg (by simp [hq]), h1, if_neg (by omega)]; omega, by simpa using h2, by simp only [fd]; rw [if_neg (by simp [hc])]; simpa using h3, by simp only [has, List.any_cons] at *; rw [hc, h4]; rfl⟩
    · have hc : (o.code == c) = true := hq
      exact .inr ⟨0, by simp only [ix]; rw [if_pos hq]; rfl, by simp, by simp only [fd]; rw [if_pos hc]; rfl, by simp only [has, List.any_cons]; rw [hc]; rfl⟩
theorem getD_c (L : List Opn) (i : Nat) : (L.map Opn.c).getD i dflt = (L.getD i Opn.dflt).c := by
  rw [List.getD_eq_getElem?_getD, List.getD_eq_getElem?_getD, List.getElem?_map]
  cases L[i]? <;> rfl
theorem ixL_at {q : Oc → Bool} {L : List Opn} {i : Nat} (h : ∀ j, j < i → q (L.getD j Opn.dflt).c = false) (hi : i < L.length) (hq : q (L.getD i Opn.dflt).c = true) : ix q (L.map Opn.c) = i :=
  ix_at (fun j hj => by rw [getD_c]; exact h j hj) (by simpa using hi) (by rw [getD_c]; exact hq)
theorem ixL_none {q : Oc → Bool} {L : List Opn} (h : ∀ j, j < L.length → q (L.getD j Opn.dflt).c = false) : ix q (L.map Opn.c) = -1 :=
  ix_none (fun j hj => by rw [getD_c]; exact h j (by simpa using hj))
theorem ixL_cases (c : Int) (L : List Opn) : (ix (is c) (L.map Opn.c) = -1 ∧ fd c (L.map Opn.c) = [] ∧ has c (L.map Opn.c) = false) ∨ ∃ i : Nat, ix (is c) (L.map Opn.c) = i ∧ i < L.length ∧ fd c (L.map Opn.c) = (L.getD i Opn.dflt).d ∧ has c (L.map Opn.c) = true := by
  rcases ix_cases c (L.map Opn.c) with h | ⟨i, h1, h2, h3, h4⟩
  · exact .inl h
  · exact .inr ⟨i, h1, by simpa using h2, by rw [h3, getD_c]; rfl, h4⟩
/-- The first one that is found in a row. -/
theorem fdL_at {c : Int} {L : List Opn} {i : Nat} (h : ∀ j, j < i → ((L.getD j Opn.dflt).code == c) = false) (hi : i < L.length) (hq : ((L.getD i Opn.dflt).code == c) = true) : fd c (L.map Opn.c) = (L.getD i Opn.dflt).d ∧ has c (L.map Opn.c) = true := by
  have := ixL_at (q := is c) h hi hq
  rcases ixL_cases c L with ⟨h1, _⟩ | ⟨k, h1, h2, h3, h4⟩
  · rw [this] at h1; omega
  · rw [this] at h1
    have : i = k := by omega
    subst this; exact ⟨h3, h4⟩
theorem fdL_none {c : Int} {L : List Opn} (h : ∀ j, j < L.length → ((L.getD j Opn.dflt).code == c) = false) : fd c (L.map Opn.c) = [] ∧ has c (L.map Opn.c) = false := by
  have := ixL_none (q := is c) h
  rcases ixL_cases c L with ⟨_, h2, h3⟩ | ⟨k, h1, _⟩
  · exact ⟨h2, h3⟩
  · rw [this] at h1; omega
theorem tot_append : ∀ a b : List Oc, tot (a ++ b) = tot a + tot b
  | [], b => by simp [tot]
  | o :: a, b => by simp only [List.cons_append, tot]; rw [tot_append a b]; omega
theorem tot_take {L : List Opn} {i : Nat} (h : i < L.length) : tot ((L.map Opn.c).take (i + 1)) = tot ((L.map Opn.c).take i) + (2 + (L.getD i Opn.dflt).d.length) := by
  rw [take_succ_getD (L.map Opn.c) i dflt (by simpa using h), tot_append, getD_c]
  simp [tot, Opn.c]
theorem tot_split (l : List Oc) (i : Nat) : tot l = tot (l.take i) + tot (l.drop i) := by rw [← tot_append, List.take_append_drop]
theorem tot_few : ∀ {l : List Oc} {k : Nat}, (∀ o, o ∈ l → o.d.length ≤ k) → tot l ≤ l.length * (k + 2)
  | [], _, _ => by simp [tot]
  | o :: l, k, h => by
    have h1 := h o (by simp)
    have h2 := tot_few (l := l) (k := k) (fun x hx => h x (by simp [hx]))
    simp only [tot, List.length_cons]
    rw [Nat.succ_mul]; omega
theorem few_iff {l : List Oc} : few l = true ↔ l.length ≤ 100 ∧ ∀ o, o ∈ l → o.d.length ≤ 1000 := by simp [few]
theorem few_tot {l : List Oc} (h : few l = true) (i : Nat) : tot (l.take i) ≤ 100200 := by
  obtain ⟨h1, h2⟩ := few_iff.1 h
  have := tot_few (l := l.take i) (k := 1000) (fun o ho => h2 o (List.mem_of_mem_take ho))
  have h3 : (l.take i).length ≤ 100 := by rw [List.length_take]; omega
  have : (l.take i).length * 1002 ≤ 100 * 1002 := Nat.mul_le_mul_right _ h3
  omega
theorem few_data {L : List Opn} (h : few (L.map Opn.c) = true) {i : Nat} (hi : i < L.length) : (L.getD i Opn.dflt).d.length ≤ 1000 := by
  have := (few_iff.1 h).2 _ (List.mem_map_of_mem (f := Opn.c) (getD_mem hi Opn.dflt))
  exact this
theorem few_fd : ∀ {l : List Oc} (c : Int), (∀ o, o ∈ l → o.d.length ≤ 1000) → (fd c l).length ≤ 1000
  | [], _, _ => by simp [fd]
  | o :: l, c, h => by
    simp only [fd]
    split
    · exact h o (by simp)
    · exact few_fd c (fun x hx => h x (by simp [hx]))
end Oc
/-- A packet, as it is told. -/
structure Pc where
  op : Int
  xid : Int
  secs : Int
  flags : Int
  ci : Int
  yi : Int
  si : Int
  gi : Int
  hw : List UInt8
  os : List Oc
namespace Pc
def cells (p : Pc) (hv ov : Value) : Array Value := #[.int .i64 p.op, .int .u32 p.xid, .int .i64 p.secs, .int .i64 p.flags, .int .u32 p.ci, .int .u32 p.yi, .int .u32 p.si, .int .u32 p.gi, hv, ov]
/-- Its bytes, and options, are read so. -/
def Rs (V : Vw) (ov : Value) (os : List Oc) : Prop := ∃ L : List Opn, L.map Opn.c = os ∧ Rd V [] 2 ov L.length (L.map Opn.cells).flatten ∧ Opn.Rds V L
structure R (V : Vw) (p : Pc) (hv ov : Value) : Prop where
  hw : Rd V [] 1 hv p.hw.length (p.hw.map byteV)
  os : Rs V ov p.os
  xid : 0 ≤ p.xid ∧ p.xid ≤ 4294967295
  yi : 0 ≤ p.yi ∧ p.yi ≤ 4294967295
  si : 0 ≤ p.si ∧ p.si ≤ 4294967295
theorem Rs.le {V V2 : Vw} {ov : Value} {os : List Oc} (h : Rs V ov os) (hl : V.le V2) : Rs V2 ov os := by
  obtain ⟨L, h1, h2, h3⟩ := h; exact ⟨L, h1, h2.le hl, h3.le hl⟩
theorem R.le {V V2 : Vw} {p : Pc} {hv ov : Value} (h : R V p hv ov) (hl : V.le V2) : R V2 p hv ov := ⟨h.hw.le hl, h.os.le hl, h.xid, h.yi, h.si⟩
def few (p : Pc) : Bool := Oc.few p.os && decide (((p.hw.length : Nat) : Int) < 1000)
def right (p : Pc) : Bool := ((p.op == 1) || (p.op == 2)) && (decide (1 ≤ p.hw.length) && (decide (p.hw.length ≤ 16) && (decide (0 ≤ p.secs) && (decide (p.secs ≤ 65535) && (decide (0 ≤ p.flags) && (decide (p.flags ≤ 65535) && (Oc.encE p.os == 0)))))))
def num (p : Pc) (c other : Int) : Int := if (Oc.fd c p.os).length = 4 then val (Oc.fd c p.os) else other
def kind (p : Pc) : Int := if (Oc.fd 53 p.os).length = 1 then val (Oc.fd 53 p.os) else 0
end Pc
/-! ### Nil slices -/
theorem Rd.none {V : Vw} {H : Hp} {k n c : Nat} {xs : List Value} (h : Rd V H k (.slice none n c) n xs) : n = 0 := by
  obtain ⟨_, p, c', h2, _, h4⟩ := h
  rcases h4 with h4 | ⟨b, off, cs, e, fz, a1, _⟩
  · exact h4
  · cases h2; cases a1
section
variable {C : Cx} {V : Vw} {H : Hp} {L : Sl} {ty : TypeId}
def sliceT (P : Program) (t : TypeId) : Bool := match P.underlying t with
  | some (.slice _) => true
  | _ => false
theorem run_equal_nilS {P : Program} {w : World} {t : TypeId} (ht : sliceT P t = true) (p : Option Addr) (n c : Nat) : (Op.equal t (.slice p n c) (.slice none 0 0)).run P w = .ok p.isNone w := by
  have hu : ∃ e, P.underlying t = some (.slice e) := by
    unfold sliceT at ht; split at ht
    · exact ⟨_, ‹_›⟩
    · cases ht
  obtain ⟨e, hu⟩ := hu
  unfold Op.equal
  rw [show Op.maxDepth = 9999 + 1 from rfl, Op.equalIn]
  cases p <;> simp [run_underlying hu]
theorem Y.eqNilS {x y : Operand} {t t' : TypeId} {p : Option Addr} {n c : Nat} (hx : ev L x = some (.slice p n c)) (hy : ev L y = some (.slice none 0 0)) (ht : sliceT C.P t = true) : Yl C V H L (.binOp .eql t x y t') ty (.bool p.isNone) := (fun V2 a w hle i o ho hty => by
  have hg : (eqGuard .eql t x y (.slice p n c) (.slice none 0 0)).run C.P w = .ok () w := by cases p <;> rfl
  simp only [execOp, ho, i.1.ev hx, i.1.ev hy, Sem.run_bind, hg, Result.andThen_ok, binOp, run_equal_nilS ht, Sem.run_pure])
end
theorem wrap_u8m (n : Int) : IntKind.u8.wrap n = n % 256 := by
  have e1 : (2 ^ IntKind.u8.bits : Int) = 256 := rfl
  simp only [IntKind.wrap, e1, show IntKind.u8.signed = false from rfl, Bool.false_and, Bool.false_eq_true, if_false]
theorem Rd.move {V : Vw} {H H' : Hp} {k : Nat} {v : Value} {n : Nat} {xs : List Value} (h : Rd V H k v n xs) (hk : ∀ b o, Kn V H b o → Kn V H' b o) : Rd V H' k v n xs := by
  obtain ⟨h1, p, c, h2, h3, h4⟩ := h
  refine ⟨h1, p, c, h2, h3, ?_⟩
  rcases h4 with h4 | ⟨b, off, cs, e, fz, a1, a2, a3⟩
  · exact .inl h4
  · exact .inr ⟨b, off, cs, e, fz, a1, hk _ _ a2, a3⟩
/-- A slice that grows, in a loop. -/
structure Gr where
  p : Option Addr
  n : Nat
  k : Nat
  q : Sg
  xs : List Value
  i : Nat
namespace Oc
theorem few_no {L : List Opn} {i : Nat} (hi : i < L.length) (h : ¬ (L.getD i Opn.dflt).d.length ≤ 1000) : few (L.map Opn.c) = false := by
  cases hf : few (L.map Opn.c) with
  | false => rfl
  | true => exact absurd (few_data hf hi) h
theorem few_long {L : List Opn} (h : ¬ L.length ≤ 100) : few (L.map Opn.c) = false := by
  cases hf : few (L.map Opn.c) with
  | false => rfl
  | true => exact absurd (by simpa using (few_iff.1 hf).1) h
theorem few_yes {L : List Opn} (h1 : L.length ≤ 100) (h : ∀ j, j < L.length → (L.getD j Opn.dflt).d.length ≤ 1000) : few (L.map Opn.c) = true := by
  refine few_iff.2 ⟨by simpa using h1, fun o ho => ?_⟩
  obtain ⟨o', ho', rfl⟩ := List.mem_map.1 ho
  obtain ⟨j, hj, hjo⟩ := List.mem_iff_getElem.1 ho'
  have := h j hj
  rw [List.getD_eq_getElem?_getD, List.getElem?_eq_getElem hj, hjo] at this
  exact this
theorem encE_odd {l : List Oc} (h : l.any odd = true) : encE l = 1 := if_pos h
theorem encE_big {l : List Oc} (h : l.any odd = false) (h2 : tot l + 1 > 1024) : encE l = 3 := (if_neg (by rw [h]; decide)).trans (if_pos h2)
theorem encE_ok {l : List Oc} (h : l.any odd = false) (h2 : ¬ tot l + 1 > 1024) : encE l = 0 := (if_neg (by rw [h]; decide)).trans (if_neg h2)
theorem same_at {L M : List Opn} (h : L.map Opn.c = M.map Opn.c) (i : Nat) : (L.getD i Opn.dflt).code = (M.getD i Opn.dflt).code ∧ (L.getD i Opn.dflt).d = (M.getD i Opn.dflt).d := by
  have := congrArg (fun l => List.getD l i dflt) h
  simp only [getD_c] at this
  exact ⟨congrArg Oc.code this, congrArg Oc.d this⟩
theorem same_len {L M : List Opn} (h : L.map Opn.c = M.map Opn.c) : L.length = M.length := by simpa using congrArg List.length h
end Oc
theorem val_of1 {l : List UInt8} (h : l.length = 1) : val l = ((l.getD 0 0).toNat : Int) := by
  match l, h with
  | [c], _ => rw [val_one]; rfl
namespace Oc
theorem any_at {L : List Opn} {i : Nat} (hi : i < L.length) (h : odd (L.getD i Opn.dflt).c = true) : (L.map Opn.c).any odd = true :=
  List.any_eq_true.2 ⟨_, List.mem_map_of_mem (f := Opn.c) (getD_mem hi Opn.dflt), h⟩
theorem any_none {L : List Opn} (h : ∀ j, j < L.length → odd (L.getD j Opn.dflt).c = false) : (L.map Opn.c).any odd = false := by
  rw [List.any_eq_false]
  intro o ho
  obtain ⟨o', ho', rfl⟩ := List.mem_map.1 ho
  obtain ⟨j, hj, hjo⟩ := List.mem_iff_getElem.1 ho'
  have := h j hj
  rw [List.getD_eq_getElem?_getD, List.getElem?_eq_getElem hj, hjo] at this
  simpa using this
theorem odd_no {c : Int} {d : List UInt8} (h1 : 1 ≤ c) (h2 : c ≤ 254) (h3 : d.length ≤ 255) : odd ⟨c, d⟩ = false := by
  unfold odd
  rw [decide_eq_false (show ¬ c ≤ 0 by omega), decide_eq_false (show ¬ c ≥ 255 by omega), decide_eq_false (show ¬ ((d.length : Nat) : Int) > 255 by omega)]; rfl
theorem odd_yes {c : Int} {d : List UInt8} (h : c < 1 ∨ c > 254 ∨ 255 < d.length) : odd ⟨c, d⟩ = true := by
  unfold odd
  simp only [Bool.or_eq_true, decide_eq_true_eq]
  omega
theorem tot_le (l : List Oc) (i : Nat) : tot (l.take i) ≤ tot l := by rw [tot_split l i]; omega
end Oc
end Go.K

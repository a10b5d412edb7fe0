/- Slices that are sorted in place: the rows of an owned block as an array of elements; loads, stores, indices by their numbers.
Conditions: as each theorem names them; nothing here speaks of a program. -/
import Derived.Test.YtjfacdepgkdoeaaK22
import Derived.Sort.LotA
import Derived.Sort.LotB
import Derived.Sort.LotC
import Derived.Sort.LotD3
set_option linter.unusedSectionVars false
set_option linter.unusedVariables false
set_option linter.unusedSimpArgs false
namespace Go.K
open Go.Sort

/-- The cells of some elements, and what lies behind them. -/
def cel {α : Type} (enc : α → List Value) (d : Array α) (rest : List Value) : List Value := d.toList.flatMap enc ++ rest
def sgD {α : Type} (enc : α → List Value) (e : TypeId) (b : Nat) (rest : List Value) (d : Array α) : Sg := [(b, .cells (cel enc d rest).toArray e (0, 0))]

/-- An element is k cells. -/
structure Enc {α : Type} (enc : α → List Value) (k : Nat) : Prop where
  len : ∀ x, (enc x).length = k
  one : ∀ x, (enc x).all one = true

theorem flat_len {α : Type} {enc : α → List Value} {k : Nat} (h : Enc enc k) : ∀ l : List α, (l.flatMap enc).length = l.length * k
  | [] => by simp
  | x :: l => by rw [List.flatMap_cons, List.length_append, h.len, flat_len h l, List.length_cons, Nat.add_mul]; omega
theorem flat_at {α : Type} {enc : α → List Value} {k : Nat} (h : Enc enc k) (r : List Value) : ∀ (l : List α) (i j : Nat) (x : α), l[i]? = some x → j < k → (l.flatMap enc ++ r)[i * k + j]? = (enc x)[j]?
  | [], i, j, x, hx, _ => by simp at hx
  | y :: l, 0, j, x, hx, hj => by
    simp at hx; subst hx
    rw [List.flatMap_cons, List.append_assoc, List.getElem?_append_left (by rw [h.len]; omega)]; simp
  | y :: l, i + 1, j, x, hx, hj => by
    rw [List.flatMap_cons, List.append_assoc, List.getElem?_append_right (by rw [h.len, Nat.add_mul]; omega), h.len, show (i + 1) * k + j - k = i * k + j by rw [Nat.add_mul]; omega]
    exact flat_at h r l i j x (by simpa using hx) hj
theorem setL_append : ∀ (vs a b : List Value) (off : Nat), a.length ≤ off → setL (a ++ b) off vs = a ++ setL b (off - a.length) vs
  | [], a, b, off, h => rfl
  | v :: vs, a, b, off, h => by
    rw [setL, setL, List.set_append_right _ _ h, setL_append vs a _ (off + 1) (by omega), show off + 1 - a.length = off - a.length + 1 by omega]
theorem setL_here : ∀ (vs p b : List Value), vs.length = p.length → ∀ q, setL (q ++ (p ++ b)) q.length vs = q ++ (vs ++ b)
  | [], p, b, h, q => by cases p; · rfl
                         · simp at h
  | v :: vs, [], b, h, q => by simp at h
  | v :: vs, u :: p, b, h, q => by
    have e : (q ++ (u :: p ++ b)).set q.length v = (q ++ [v]) ++ (p ++ b) := by simp
    rw [setL, e, show q.length + 1 = (q ++ [v]).length by simp, setL_here vs p b (by simpa using h) (q ++ [v])]; simp
theorem flat_set {α : Type} {enc : α → List Value} {k : Nat} (h : Enc enc k) (r : List Value) (x : α) : ∀ (l : List α) (i : Nat), i < l.length → setL (l.flatMap enc ++ r) (i * k) (enc x) = (l.set i x).flatMap enc ++ r
  | [], i, hi => by simp at hi
  | y :: l, 0, hi => by
    have := setL_here (enc x) (enc y) (l.flatMap enc ++ r) (by rw [h.len, h.len]) []
    simpa using this
  | y :: l, i + 1, hi => by
    rw [List.flatMap_cons, List.append_assoc, setL_append _ _ _ _ (by rw [h.len, Nat.add_mul]; omega), h.len, show (i + 1) * k - k = i * k by rw [Nat.add_mul]; omega, flat_set h r x l i (by simpa using hi)]
    simp [List.set_cons_succ]

section
variable {α : Type} [Inhabited α] {enc : α → List Value} {k : Nat}
theorem cel_at (h : Enc enc k) {d : Array α} {rest : List Value} {i j : Nat} (hi : i < d.size) (hj : j < k) : (cel enc d rest).toArray[i * k + j]? = (enc d[i]!)[j]? := by
  rw [List.getElem?_toArray]
  exact flat_at h rest d.toList i j d[i]! (by rw [getElem!_pos d i hi]; simp [hi]) hj
theorem cellsAt_eq {c : Array Value} {off : Nat} : ∀ (l : List Value) (o : Nat), (∀ j, j < l.length → c[off + o + j]? = l[j]?) → cellsAt c (off + o) l.length = some l
  | [], o, _ => rfl
  | v :: l, o, h => by
    have h0 := h 0 (by simp)
    simp at h0
    show (match c[off + o]?, cellsAt c (off + o + 1) l.length with | some v, some vs => some (v :: vs) | _, _ => none) = _
    rw [h0, Nat.add_assoc, cellsAt_eq l (o + 1) (fun j hj => by have := h (j + 1) (by simpa using hj); rw [show off + (o + 1) + j = off + o + (j + 1) by omega]; simpa using this)]
theorem cel_cells (h : Enc enc k) {d : Array α} {rest : List Value} {i : Nat} (hi : i < d.size) : cellsAt (cel enc d rest).toArray (i * k) k = some (enc d[i]!) := by
  have := cellsAt_eq (c := (cel enc d rest).toArray) (off := i * k) (enc d[i]!) 0 (fun j hj => by rw [h.len] at hj; simpa using cel_at h hi hj)
  rw [h.len] at this; simpa using this
omit [Inhabited α] in
theorem cel_set (h : Enc enc k) {d : Array α} {rest : List Value} {i : Nat} (hi : i < d.size) (x : α) : setL (cel enc d rest) (i * k) (enc x) = cel enc (d.setIfInBounds i x) rest := by
  unfold cel; rw [flat_set h rest x d.toList i (by simpa using hi)]; simp
omit [Inhabited α] in
theorem cel_len (h : Enc enc k) {d : Array α} {rest : List Value} : (cel enc d rest).length = d.size * k + rest.length := by
  unfold cel; rw [List.length_append, flat_len h]; simp
end

section
variable {C : Cx} {V : Vw} {H : Hp} {L : Sl} {Q : Exit → Act → World → Prop} {ops : Array Oper} {os : List Oper} {ty : TypeId} {pos : String} {aft : Array Edge}
variable {α : Type} [Inhabited α] {enc : α → List Value} {k : Nat}

/-- The index by its number. -/
theorem Y.idxN {x y : Operand} {t e : TypeId} {z : Nat} {b n c : Nat} {kk : IntKind} {m : Int} (i : Nat) (hx : ev L x = some (.slice (some ⟨b, 0, none⟩) n c)) (hy : ev L y = some (.int kk m)) (ht : elemS C.P t = some (e, z)) (hm : m = (i : Int)) (h1 : i < n) :
    Yl C V H L (.indexAddr t x y) ty (.pointer (some ⟨b, i * z, none⟩)) := by
  subst hm
  have := Y.idxAddr (C := C) (V := V) (H := H) (L := L) (ty := ty) hx hy ht (by omega) (by simpa using h1)
  simpa using this

/-- An element of one cell is read. -/
theorem Y.ldD {x : Operand} {b e i : Nat} {t : TypeId} {d : Array α} {rest : List Value} {v : Value} (hx : ev L x = some (.pointer (some ⟨b, i * 1, none⟩))) (ht : scal C.P t = true) (hk : Kn V H b (.cells (cel enc d rest).toArray e (0, 0))) (he : Enc enc 1) (hi : i < d.size) (hv : enc d[i]! = [v]) :
    Yl C V H L (.load t x) ty v :=
  Y.load hx ht hk (by have := cel_at (rest := rest) he hi (j := 0) (by omega); rw [hv] at this; simpa using this)
/-- One of some cells. -/
theorem Y.ldA {x : Operand} {b e i z : Nat} {t : TypeId} {d : Array α} {rest : List Value} {vs : List Value} (hx : ev L x = some (.pointer (some ⟨b, i * z, none⟩))) (ht : aggsz C.P t = some z) (hk : Kn V H b (.cells (cel enc d rest).toArray e (0, 0))) (he : Enc enc z) (hi : i < d.size) (hv : enc d[i]! = vs) :
    Yl C V H L (.load t x) ty (.agg vs.toArray) :=
  Y.loadAgg hx ht hk (by rw [cel_cells he hi, hv])
/-- An element is written. -/
theorem Run.stD {x y : Operand} {b e i s z : Nat} {t : TypeId} {d : Array α} {rest : List Value} {v : Value} (u : α) (hx : ev L x = some (.pointer (some ⟨b, i * z, none⟩))) (hy : ev L y = some v) (ht : sizeT C.P t = some z) (hH : H[s]? = some (sgD enc e b rest d)) (he : Enc enc z) (hi : i < d.size) (hv : v.cells.toList = enc u)
    (kk : Run C ops V (H.set s (sgD enc e b rest (d.setIfInBounds i u))) L os Q) : Run C ops V H L (⟨none, .store t x y, ty, pos, aft, none⟩ :: os) Q :=
  Run.store hx hy ht hH (by rw [← Array.length_toList, hv, he.len]) (by rw [cel_len he]; have := Nat.mul_le_mul_right z (show i + 1 ≤ d.size from hi); rw [Nat.add_mul] at this; omega) (by rw [hv]; exact he.one u)
    (by rw [hv, cel_set he hi]; rfl) kk

/-- Numbers that are natural. -/
theorem Y.addN {x y : Operand} {m n : Int} {t t' : TypeId} (r : Int) (hx : ev L x = some (.int .i64 m)) (hy : ev L y = some (.int .i64 n)) (hr : m + n = r) (h : -9223372036854775808 ≤ r ∧ r ≤ 9223372036854775807) : Yl C V H L (.binOp .add t x y t') ty (.int .i64 r) := by
  subst hr; exact Y.add hx hy h
theorem Y.subN {x y : Operand} {m n : Int} {t t' : TypeId} (r : Int) (hx : ev L x = some (.int .i64 m)) (hy : ev L y = some (.int .i64 n)) (hr : m - n = r) (h : -9223372036854775808 ≤ r ∧ r ≤ 9223372036854775807) : Yl C V H L (.binOp .sub t x y t') ty (.int .i64 r) := by
  subst hr; exact Y.sub hx hy h
theorem Y.mulN {x y : Operand} {m n : Int} {t t' : TypeId} (r : Int) (hx : ev L x = some (.int .i64 m)) (hy : ev L y = some (.int .i64 n)) (hr : m * n = r) (h : -9223372036854775808 ≤ r ∧ r ≤ 9223372036854775807) : Yl C V H L (.binOp .mul t x y t') ty (.int .i64 r) := by
  subst hr; exact Y.mul hx hy h
theorem Y.quoN {x y : Operand} {m n : Nat} {t t' : TypeId} (hx : ev L x = some (.int .i64 (m : Int))) (hy : ev L y = some (.int .i64 (n : Int))) (hn : 0 < n) (h : m ≤ 9223372036854775807) : Yl C V H L (.binOp .quo t x y t') ty (.int .i64 ((m / n : Nat) : Int)) :=
  Y.quo _ hx hy (by omega) (by
    have e : (m : Int).tdiv (n : Int) = ((m / n : Nat) : Int) := rfl
    rw [e]; have h2 := Nat.div_le_self m n; generalize m / n = q at *; exact wrap_i64 ⟨by omega, by omega⟩)
end

/-! ### The sort's loops, by rounds -/
section
variable {α : Type} [Inhabited α] {lt : α → α → Bool}
theorem insInner_go {a j : Nat} {d : Array α} (h : a < j) (hl : lt d[j]! d[j - 1]! = true) : insInner lt a j d = insInner lt a (j - 1) (swp d j (j - 1)) := by
  obtain ⟨j, rfl⟩ : ∃ j', j = j' + 1 := ⟨j - 1, by omega⟩
  simp only [Nat.add_sub_cancel] at hl
  rw [insInner, if_pos (by simp [hl]; omega)]; rfl
theorem insInner_stop {a j : Nat} {d : Array α} (h : j ≤ a ∨ lt d[j]! d[j - 1]! = false) : insInner lt a j d = d := by
  cases j with
  | zero => rfl
  | succ j =>
    simp only [Nat.add_sub_cancel] at h
    rw [insInner, if_neg]
    rcases h with h | h <;> simp [h] <;> omega
theorem insOuter_go {a b i : Nat} {d : Array α} (h : i < b) : insOuter lt a b i d = insOuter lt a b (i + 1) (insInner lt a i d) := by rw [insOuter, if_pos h]
theorem insOuter_stop {a b i : Nat} {d : Array α} (h : b ≤ i) : insOuter lt a b i d = d := by rw [insOuter, if_neg (by omega)]
end
end Go.K

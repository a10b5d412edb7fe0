/- The rules of the walks on elements of slices: their addresses, loads and stores, without a word of where the slice lies.
Conditions: none; nothing here speaks of a program. -/
import Derived.Test.YtjfacdepgkdoeaaK20
import Derived.Test.YtjfacdepgkdoeaaS1
import Derived.Test.YtjfacdepgkdoeaaK15
set_option linter.unusedSimpArgs false
set_option linter.unusedVariables false
namespace Go.K
/-- The address of the j-th cell of a slice that begins at p. -/
def elp (p : Option Addr) (j : Nat) : Value := .pointer (p.map fun a => ⟨a.block, a.off + j, none⟩)
theorem elp_some (b off j : Nat) : elp (some ⟨b, off, none⟩) j = .pointer (some ⟨b, off + j, none⟩) := rfl
section
variable {C : Cx} {V : Vw} {H : Hp} {L : Sl} {Q : Exit → Act → World → Prop} {ops : Array Oper} {os : List Oper}
variable {ty : TypeId} {pos : String} {aft : Array Edge} {d : Nat}
theorem Rd.at {k n c : Nat} {p : Option Addr} {xs : List Value} (h : Rd V H k (.slice p n c) n xs) (hn : 0 < n) :
    ∃ b off cs e fz, p = some ⟨b, off, none⟩ ∧ Kn V H b (.cells cs e fz) ∧ ∀ j, j < n * k → cs[off + j]? = xs[j]? := by
  obtain ⟨_, p', c', h2, _, h4 | h4⟩ := h
  · omega
  · cases h2; exact h4
theorem Y.idxR {x y : Operand} {t e z n c : Nat} {p : Option Addr} {kk : IntKind} {m : Int} {xs : List Value} (i : Nat) (hx : ev L x = some (.slice p n c)) (hy : ev L y = some (.int kk m)) (ht : elemS C.P t = some (e, z)) (hr : Rd V H z (.slice p n c) n xs)
    (hm : m = (i : Int)) (hi : i < n) : Yl C V H L (.indexAddr t x y) ty (elp p (i * z)) := by
  obtain ⟨b, off, cs, e', fz, rfl, _, _⟩ := hr.at (by omega)
  subst hm
  exact Y.idxAddr hx hy ht (by omega) (by simpa using hi)
theorem Y.fieldR {x : Operand} {s f o j k n c : Nat} {p : Option Addr} {xs : List Value} (hx : ev L x = some (elp p j)) (hf : fieldOff C.P s f = some o) (hr : Rd V H k (.slice p n c) n xs) (hn : 0 < n) : Yl C V H L (.fieldAddr s x f) ty (elp p (j + o)) := by
  obtain ⟨b, off, cs, e', fz, rfl, _, _⟩ := hr.at hn
  have := Y.fieldAddr (C := C) (V := V) (H := H) (ty := ty) hx hf
  rw [Nat.add_assoc] at this; exact this
theorem Y.ldR {x : Operand} {t j k n c : Nat} {p : Option Addr} {xs : List Value} {v : Value} (hx : ev L x = some (elp p j)) (ht : scal C.P t = true) (hr : Rd V H k (.slice p n c) n xs) (hv : xs[j]? = some v) : Yl C V H L (.load t x) ty v := by
  have hj : j < n * k := by
    have := hr.1
    rcases Nat.lt_or_ge j xs.length with h | h
    · omega
    · rw [List.getElem?_eq_none h] at hv; cases hv
  have hn : 0 < n := by rcases Nat.eq_zero_or_pos n with h | h; (subst h; omega); exact h
  obtain ⟨b, off, cs, e', fz, rfl, hk, hcs⟩ := hr.at hn
  exact Y.load hx ht hk ((hcs j hj).trans hv)
theorem Y.ldRA {x : Operand} {t j k n c z : Nat} {p : Option Addr} {xs vs : List Value} (hx : ev L x = some (elp p j)) (ht : aggsz C.P t = some z) (hr : Rd V H k (.slice p n c) n xs) (hz : vs.length = z) (hz0 : 0 < z) (hv : ∀ o, o < z → xs[j + o]? = vs[o]?) : Yl C V H L (.load t x) ty (.agg vs.toArray) := by
  have hlast : j + (z - 1) < n * k := by
    have h1 := hv (z - 1) (by omega)
    have := hr.1
    rcases Nat.lt_or_ge (j + (z - 1)) xs.length with h | h
    · omega
    · rw [List.getElem?_eq_none h, List.getElem?_eq_getElem (by omega)] at h1; cases h1
  have hn : 0 < n := by rcases Nat.eq_zero_or_pos n with h | h; (subst h; omega); exact h
  obtain ⟨b, off, cs, e', fz, rfl, hk, hcs⟩ := hr.at hn
  subst hz
  exact Y.loadAgg hx ht hk (cellsAt_of vs (off + j) fun o ho => by rw [Nat.add_assoc, hcs _ (by omega)]; exact hv o ho)

/-! rows of equal length -/
section
variable {α : Type} {f : α → List Value} {z : Nat} {l : List α}
theorem rows_atA (hz : ∀ x, (f x).length = z) {i : Nat} (hi : i < l.length) (d : α) {o : Nat} (ho : o < z) : (l.map f).flatten[i * z + o]? = (f (l.getD i d))[o]? := by
  rw [flatten_at (z := z) _ i o (fun r hr => by obtain ⟨x, _, rfl⟩ := List.mem_map.1 hr; exact hz x) ho, List.getElem?_map, List.getElem?_eq_getElem hi]
  simp [List.getD_eq_getElem?_getD, List.getElem?_eq_getElem hi]
theorem rows_at (hz : ∀ x, (f x).length = z) {i : Nat} (hi : i < l.length) (d : α) {o : Nat} {v : Value} (ho : o < z) (hv : (f (l.getD i d))[o]? = some v) : (l.map f).flatten[i * z + o]? = some v := by rw [rows_atA hz hi d ho, hv]
theorem rows_at0 (hz : ∀ x, (f x).length = z) {i : Nat} (hi : i < l.length) (d : α) {v : Value} (ho : 0 < z) (hv : (f (l.getD i d))[0]? = some v) : (l.map f).flatten[i * z]? = some v := rows_at hz hi d ho hv
theorem flatm_at (hz : ∀ x, (f x).length = z) {i : Nat} (hi : i < l.length) (d : α) {o : Nat} {v : Value} (ho : o < z) (hv : (f (l.getD i d))[o]? = some v) : (l.flatMap f)[i * z + o]? = some v := by rw [List.flatMap_def]; exact rows_at hz hi d ho hv
theorem flatm_at0 (hz : ∀ x, (f x).length = z) {i : Nat} (hi : i < l.length) (d : α) {v : Value} (ho : 0 < z) (hv : (f (l.getD i d))[0]? = some v) : (l.flatMap f)[i * z]? = some v := flatm_at hz hi d ho hv
theorem flatm_atA (hz : ∀ x, (f x).length = z) {i : Nat} (hi : i < l.length) (d : α) : ∀ o, o < z → (l.flatMap f)[i * z + o]? = (f (l.getD i d))[o]? := fun o ho => by rw [List.flatMap_def]; exact rows_atA hz hi d ho
theorem flat_snoc (x : α) : (l ++ [x]).flatMap f = l.flatMap f ++ f x := by simp
/-- A slice of it. -/
theorem flat_cut (hz : ∀ x, (f x).length = z) (a b : Nat) : ((l.flatMap f).drop (a * z)).take (b * z) = ((l.drop a).take b).flatMap f := by
  induction l generalizing a b with
  | nil => simp
  | cons x l ih =>
    cases a with
    | succ a =>
      rw [List.flatMap_cons, List.drop_succ_cons, ← ih a b, Nat.succ_mul, show a * z + z = z + a * z by omega, ← List.drop_drop, show (f x ++ l.flatMap f).drop z = l.flatMap f from by rw [← hz x]; exact List.drop_left]
    | zero =>
      cases b with
      | zero => simp
      | succ b =>
        have := ih 0 b
        simp only [Nat.zero_mul, List.drop_zero] at this ⊢
        rw [List.take_succ_cons, List.flatMap_cons, List.flatMap_cons, ← this, Nat.succ_mul, show b * z + z = (f x).length + b * z by rw [hz]; omega, List.take_append, List.take_of_length_le (by omega)]; simp
end
theorem Rd.cut {α : Type} {f : α → List Value} {k n c : Nat} {p : Option Addr} {l : List α} (hz : ∀ x, (f x).length = k) (h : Rd V H k (.slice p n c) n (l.flatMap f)) (a b : Nat) (ha : a ≤ b) (hb : b ≤ n) :
    Rd V H k (.slice (if c = a then p else p.map (·.add (a * k))) (b - a) (c - a)) (b - a) (((l.drop a).take (b - a)).flatMap f) := by
  rw [← flat_cut hz]; exact h.slice a b ha hb

theorem all_one_flat {α : Type} {f : α → List Value} {k : Nat} (h : Enc f k) : ∀ l : List α, (l.flatMap f).all one = true
  | [] => rfl
  | x :: l => by rw [List.flatMap_cons, List.all_append, h.one, all_one_flat h l]; rfl
theorem Ow.app {α : Type} {f : α → List Value} {l m : List α} {e : TypeId} {k n : Nat} {v : Value} {s : Sg} (h : Ow e k v n (l.flatMap f ++ m.flatMap f) s) : Ow e k v n ((l ++ m).flatMap f) s := by rw [List.flatMap_append]; exact h
theorem Ow.app1 {α : Type} {f : α → List Value} {l : List α} {x : α} {e : TypeId} {k n : Nat} {v : Value} {s : Sg} (h : Ow e k v n (l.flatMap f ++ f x) s) : Ow e k v n ((l ++ [x]).flatMap f) s := by rw [flat_snoc]; exact h
theorem Ow.cap {e : TypeId} {k n c : Nat} {p : Option Addr} {xs : List Value} {s : Sg} (h : Ow e k (.slice p n c) n xs s) : n ≤ c := by
  obtain ⟨_, ⟨h1, _⟩ | ⟨b, cap, cur, h1, _, h2, _⟩⟩ := h
  · cases h1; exact Nat.le_refl _
  · cases h1; exact h2
/-- An element of one's own slice is written. -/
theorem set_cells {cur : Array Value} {xs : List Value} {n j : Nat} {v : Value} (h : ∀ i, i < n → cur[i]? = xs[i]?) (hj : j < n) (hl : xs.length = n) : ∀ i, i < n → (cur.setIfInBounds j v)[i]? = (xs.set j v)[i]? := fun i hi => by
  rw [Array.getElem?_setIfInBounds, List.getElem?_set]
  by_cases e : j = i
  · subst e
    have : j < cur.size := by
      have := h j hj
      rcases Nat.lt_or_ge j cur.size with g | g
      · exact g
      · rw [Array.getElem?_eq_none g, List.getElem?_eq_getElem (by omega)] at this; cases this
    simp [this, hl, hj]
  · simp [e, h i hi]
theorem Run.stO {x y : Operand} {t e k n c j i : Nat} {p : Option Addr} {xs : List Value} {v : Value} {s : Sg} (hx : ev L x = some (elp p j)) (hy : ev L y = some v) (ht : sizeT C.P t = some 1) (ho : Ow e k (.slice p n c) n xs s) (hi : H[i]? = some s) (hj : j < n * k) (hv : v.cells.toList = [v]) (h1 : one v = true)
    (kk : ∀ s', Ow e k (.slice p n c) n (xs.set j v) s' → Run C ops V (H.set i s') L os Q) : Run C ops V H L (⟨none, .store t x y, ty, pos, aft, none⟩ :: os) Q := by
  obtain ⟨h1', ⟨_, h2, _⟩ | ⟨b, cap, cur, h2, h3, h4, h5, h6, h7⟩⟩ := ho
  · subst h2; omega
  · cases h2; subst h3
    refine Run.store (s := [(b, .cells (setL cur.toList (0 + j) v.cells.toList).toArray e (0, 0))]) (c := cur.toList) (by rw [elp_some] at hx; exact hx) hy ht (by rw [hi]) (by rw [← Array.length_toList, hv]; rfl) (by
      have : n * k ≤ c * k := Nat.mul_le_mul_right _ h4
      rw [Array.length_toList, h6]; omega) (by rw [hv]; simp [h1]) rfl (kk _ ?_)
    refine ⟨by simpa using h1', .inr ⟨b, c, _, rfl, rfl, h4, h5, ?_, ?_⟩⟩
    · rw [hv, Nat.zero_add]; simp [setL, h6]
    · rw [hv, Nat.zero_add]; simp only [setL]
      intro i' hi'
      have := set_cells h7 hj h1' (v := v) i' hi'
      rw [← this]; simp; rw [← Array.toList_setIfInBounds, Array.getElem?_toList]
end
end Go.K

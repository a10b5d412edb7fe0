/- Slices of plain structs among a law's arguments.
Conditions: none; nothing here speaks of a program. -/
import Derived.Test.YtjfacdepgkdoeaaK13
set_option linter.unusedSimpArgs false
namespace Go.K
open Go.ChangeShapes Go.WideShapes Go.ChangeAt Go.RowKit
section
variable {H : Type} {enc : TypeId × Value → H} {P : Program} {w : World} {base : Nat} {spare : Nat → Bool} {held : Bool}

def flatFields (F : TypeId → Option (List (Nat × IntKind))) (P : Program) : Nat → List Field → Option (List (Nat × IntKind))
  | _, [] => some []
  | j, f :: fs => if f.offset = j then match F f.type with
    | some g => if g.length = P.cellsOf f.type then match flatFields F P (j + g.length) fs with
      | some gs => some (g ++ gs)
      | none => none
      else none
    | none => none
    else none
/-- The tags of a datum's cells, structs within structs laid out. -/
def flatN (P : Program) : Nat → TypeId → Option (List (Nat × IntKind))
  | 0, _ => none
  | d + 1, t => match tagOf P t with
    | some g => if P.cellsOf t = 1 then some [g] else none
    | none => match P.underlying t with
      | some (.struct fs) => match flatFields (flatN P d) P 0 fs.toList with
        | some gs => if gs.length = P.cellsOf t then some gs else none
        | none => none
      | _ => none

theorem wfVs_append : ∀ {gs hs : List (Nat × IntKind)} {xs ys : List Value}, wfVs gs xs → wfVs hs ys → wfVs (gs ++ hs) (xs ++ ys)
  | [], _, [], _, _, h => h
  | [], _, _ :: _, _, h, _ => h.elim
  | _ :: _, _, [], _, h, _ => h.elim
  | _ :: _, _, _ :: _, _, h, k => ⟨h.1, wfVs_append h.2 k⟩
theorem wfVs_len : ∀ {gs : List (Nat × IntKind)} {xs : List Value}, wfVs gs xs → xs.length = gs.length
  | [], [], _ => rfl
  | [], _ :: _, h => h.elim
  | _ :: _, [], h => h.elim
  | _ :: _, _ :: _, h => by simp [wfVs_len h.2]

theorem wfVs_fields {F : TypeId → Option (List (Nat × IntKind))} {cs : List Value} : ∀ (l : List Field) (j : Nat) (gs : List (Nat × IntKind)), flatFields F P j l = some gs → cs.length = j + gs.length →
    (∀ (f : Field), f ∈ l → ∀ g, F f.type = some g → wfVs g ((cs.drop f.offset).take (P.cellsOf f.type))) → wfVs gs (cs.drop j)
  | [], j, gs, hf, hl, _ => by
    cases hf
    rw [List.drop_eq_nil_of_le (by simpa using Nat.le_of_eq hl)]; trivial
  | f :: fs, j, gs, hf, hl, hc => by
    unfold flatFields at hf
    split at hf
    · rename_i ho
      split at hf
      · rename_i g hg
        split at hf
        · rename_i hlen
          split at hf
          · rename_i gs' h2
            cases hf
            have h1 := hc f (List.mem_cons_self ..) g hg
            rw [ho, ← hlen] at h1
            have h3 := wfVs_fields fs (j + g.length) gs' h2 (by rw [hl, List.length_append]; omega) (fun f' hf' => hc f' (List.mem_cons_of_mem _ hf'))
            have e : cs.drop j = (cs.drop j).take g.length ++ cs.drop (j + g.length) := by rw [← List.drop_drop, List.take_append_drop]
            rw [e]
            exact wfVs_append h1 h3
          · cases hf
        · cases hf
      · cases hf
    · cases hf

theorem trod_flatN : ∀ (d : Nat) {t : TypeId} {gs : List (Nat × IntKind)} {fuel : Nat} {cs : List Value} {x : DataW H × List MemPlace}, flatN P d t = some gs → DataW.trod enc P w base spare held fuel t cs = some x → wfVs gs cs
  | 0, _, _, _, _, _, h, _ => by cases h
  | d + 1, t, gs, fuel, cs, x, h, hd => by
    unfold flatN at h
    split at h
    · rename_i g hg
      split at h
      · cases h
        obtain ⟨v, rfl, hw⟩ := trod_tag hg hd
        exact ⟨hw, trivial⟩
      · cases h
    · split at h
      · rename_i fs hu
        split at h
        · rename_i gs' hf
          split at h
          · rename_i hsz
            cases h
            obtain ⟨xs, n, rfl, rfl, hlen, hxl, hfl⟩ := DataW.trod_struct hu hd
            have := wfVs_fields (P := P) (cs := cs) fs.toList 0 gs hf (by rw [hlen, hsz]; simp) (fun f hm g hg => by
              obtain ⟨i, hi⟩ := List.mem_iff_getElem?.1 hm
              have hi' : fs[i]? = some f := by simpa using hi
              have hlt : i < fs.size := (Array.getElem?_eq_some_iff.1 hi').1
              have h1 := hfl i f hi'
              rw [List.getElem?_eq_getElem (by omega)] at h1
              exact trod_flatN d hg h1)
            simpa using this
          · cases h
        · cases h
      · cases h

theorem flatten_at {z : Nat} : ∀ (rows : List (List Value)) (i o : Nat), (∀ r, r ∈ rows → r.length = z) → o < z → rows.flatten[i * z + o]? = (rows[i]?).bind (·[o]?)
  | [], i, o, _, _ => by simp
  | r :: rows, 0, o, h, ho => by
    have hr := h r (List.mem_cons_self ..)
    simp only [List.flatten_cons, Nat.zero_mul, Nat.zero_add, List.getElem?_cons_zero, Option.bind_some]
    rw [List.getElem?_append_left (by omega)]
  | r :: rows, i + 1, o, h, ho => by
    have hr := h r (List.mem_cons_self ..)
    simp only [List.flatten_cons, List.getElem?_cons_succ]
    rw [List.getElem?_append_right (by rw [hr, Nat.succ_mul]; omega), hr, show (i + 1) * z + o - z = i * z + o from by rw [Nat.succ_mul]; omega]
    exact flatten_at rows i o (fun r' h' => h r' (List.mem_cons_of_mem _ h')) ho

/-- A slice of plain structs reads in the world as it stands. -/
theorem open_rows {r : Reach} {b0 : Nat} {t e : TypeId} {z d : Nat} {gs : List (Nat × IntKind)} {v : Value} {dd : DataW H} {ps : List MemPlace} (ht : elemS P t = some (e, z)) (hg : flatN P d e = some gs) (hc : P.cellsOf e = z) (hz : gs.length = z) (hz0 : 0 < z)
    (hv : Value.okWide P w r b0 t v) (h : DataW.Trod enc P w base spare held t v dd ps) : ∃ rows : List (List Value), Rd (allV w) [] z v rows.length rows.flatten ∧ rows.length ≤ 9223372036854775807 ∧ ∀ q, q ∈ rows → wfVs gs q := by
  have hu := (under_elemS ht).1
  obtain ⟨a0, len, cap, rfl⟩ := okWide_slice hu hv
  obtain ⟨fuel, hf⟩ := h
  rcases DataW.trod_slice hu (by simpa [Value.cells] using hf) with ⟨hcs, _⟩ | ⟨a, len', cap', elems, rest, n, _, hcs, _, hb, hl, hm, hlen, hel, _, _⟩
  · simp only [List.cons.injEq, and_true] at hcs
    cases hcs
    exact ⟨[], ⟨by simp, none, 0, rfl, Nat.le_refl _, .inl rfl⟩, by simp, fun q hq => by cases hq⟩
  · simp only [List.cons.injEq, and_true] at hcs
    cases hcs
    rw [hc] at hel
    have each : ∀ i, i < len → ∃ cs, w.cells? base (a.add (i * z)) z = some cs ∧ wfVs gs cs := fun i hi => by
      have h1 := hel i hi
      rw [List.getElem?_eq_getElem (by omega)] at h1
      cases hq : w.cells? base (a.add (i * z)) z with
      | none => rw [hq] at h1; cases h1
      | some cs => rw [hq] at h1; exact ⟨cs, rfl, trod_flatN d hg h1⟩
    let rows : List (List Value) := (List.range len).map fun i => (w.cells? base (a.add (i * z)) z).getD []
    have hrl : rows.length = len := by simp [rows]
    have hrow : ∀ i, i < len → ∃ cs, rows[i]? = some cs ∧ w.cells? base (a.add (i * z)) z = some cs ∧ wfVs gs cs := fun i hi => by
      obtain ⟨cs, h1, h2⟩ := each i hi
      exact ⟨cs, by simp [rows, List.getElem?_map, List.getElem?_range, hi, h1], h1, h2⟩
    have hall : ∀ q, q ∈ rows → wfVs gs q := fun q hq => by
      obtain ⟨i, hi⟩ := List.mem_iff_getElem?.1 hq
      have hlt : i < len := by rw [← hrl]; exact (List.getElem?_eq_some_iff.1 hi).1
      obtain ⟨cs, h1, _, h3⟩ := hrow i hlt
      rw [hi] at h1; cases h1; exact h3
    have hlens : ∀ q, q ∈ rows → q.length = z := fun q hq => by rw [wfVs_len (hall q hq), hz]
    refine ⟨rows, ?_, by rw [hrl]; unfold maxLen at hm; omega, hall⟩
    refine ⟨?_, some a, cap, by rw [hrl], by rw [hrl]; exact hl, ?_⟩
    · clear hel each hrow hall
      have : ∀ (l : List (List Value)), (∀ q, q ∈ l → q.length = z) → l.flatten.length = l.length * z := fun l => by
        induction l with
        | nil => intro _; simp
        | cons q l ih => intro hh; rw [List.flatten_cons, List.length_append, ih (fun q' h' => hh q' (List.mem_cons_of_mem _ h')), hh q (List.mem_cons_self ..), List.length_cons, Nat.succ_mul]; omega
      exact this rows hlens
    · rw [hrl]
      by_cases h0 : len = 0
      · exact .inl h0
      · right
        have cell : ∀ i o, i < len → o < z → ∃ u, w.cell? (a.add (i * z + o)) = some u ∧ rows.flatten[i * z + o]? = some u := fun i o hi ho => by
          obtain ⟨cs, h1, h2, h3⟩ := hrow i hi
          obtain ⟨_, hl2, hcell⟩ := World.cells?_some h2
          have h4 := hcell o ho
          rw [flatten_at rows i o hlens ho, h1]
          have h5 : o < cs.length := by rw [wfVs_len h3, hz]; exact ho
          rw [List.getElem?_eq_getElem h5] at h4
          refine ⟨cs[o], ?_, by simp [List.getElem?_eq_getElem h5]⟩
          rw [← h4]; congr 1
          unfold Addr.add
          by_cases k1 : i * z = 0 <;> by_cases k2 : o = 0 <;> simp_all [Nat.add_assoc]
        obtain ⟨b, off, spot⟩ := a
        obtain ⟨u, hu0, _⟩ := cell 0 0 (by omega) hz0
        have hspot : spot = none := by simpa [Addr.add] using World.cell?_spot hu0
        subst hspot
        unfold World.cell? at hu0
        rw [Addr.add_plain] at hu0
        simp only at hu0
        cases hb : w.heap[b]? with
        | none => rw [hb] at hu0; cases hu0
        | some o =>
          rw [hb] at hu0
          cases o <;> simp only [reduceCtorEq] at hu0
          rename_i cs e' fz
          refine ⟨b, off, cs, e', fz, rfl, .inl hb, fun j hj => ?_⟩
          have hi : j / z < len := Nat.div_lt_of_lt_mul (by rw [Nat.mul_comm]; exact hj)
          have ho : j % z < z := Nat.mod_lt _ hz0
          obtain ⟨u, h1, h2⟩ := cell (j / z) (j % z) hi ho
          have ej : j / z * z + j % z = j := by rw [Nat.mul_comm]; exact Nat.div_add_mod j z
          rw [ej] at h1 h2
          unfold World.cell? at h1
          rw [Addr.add_plain] at h1
          simp only [hb] at h1
          simp only [Option.isSome_none, Bool.false_eq_true, if_false] at h1
          rw [h1, h2]
end
theorem rows_of {α : Type} (f : α → List Value) (Q : α → Prop) : ∀ {rows : List (List Value)}, (∀ q, q ∈ rows → ∃ x, q = f x ∧ Q x) → ∃ l : List α, rows = l.map f ∧ ∀ x, x ∈ l → Q x
  | [], _ => ⟨[], rfl, fun _ h => by cases h⟩
  | q :: rows, h => by
    obtain ⟨x, rfl, hx⟩ := h q (List.mem_cons_self ..)
    obtain ⟨l, rfl, hl⟩ := rows_of f Q (fun q' h' => h q' (List.mem_cons_of_mem _ h'))
    exact ⟨x :: l, rfl, fun y hy => by rcases List.mem_cons.1 hy with rfl | hy; exact hx; exact hl y hy⟩
theorem cellsAt_of {c : Array Value} : ∀ (vs : List Value) (off : Nat), (∀ o, o < vs.length → c[off + o]? = vs[o]?) → cellsAt c off vs.length = some vs
  | [], _, _ => rfl
  | v :: vs, off, h => by
    have h0 := h 0 (by simp)
    have h1 := cellsAt_of vs (off + 1) (fun o ho => by have := h (o + 1) (by simp; omega); rw [show off + 1 + o = off + (o + 1) from by omega]; simpa using this)
    simp only [List.length_cons, cellsAt]
    rw [show c[off]? = some v from by simpa using h0, h1]
/-- The cells of row i. -/
theorem row_at {α : Type} {f : α → List Value} {z n off : Nat} {cs : Array Value} {l : List α} (hz : ∀ x, (f x).length = z) (h : ∀ j, j < n * z → cs[off + j]? = (l.map f).flatten[j]?) {i : Nat} (hi : i < l.length) (hn : l.length ≤ n) (d : α) :
    ∀ o, o < z → cs[off + (i : Int).toNat * z + o]? = (f (l.getD i d))[o]? := fun o ho => by
  have h1 : i * z + o < n * z := by
    have : (i + 1) * z ≤ n * z := Nat.mul_le_mul_right _ (by omega)
    rw [Nat.succ_mul] at this; omega
  rw [Int.toNat_natCast, Nat.add_assoc, h _ h1, flatten_at (z := z) _ i o (fun r hr => by obtain ⟨x, _, rfl⟩ := List.mem_map.1 hr; exact hz x) ho]
  rw [List.getElem?_map, List.getElem?_eq_getElem hi]
  simp [List.getD_eq_getElem?_getD, List.getElem?_eq_getElem hi]
end Go.K

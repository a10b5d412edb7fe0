/- Slices of structs that hold slices, among a law's arguments.
Conditions: none; nothing here speaks of a program. -/
import Derived.Test.YtelahacalnmilaaK15
set_option linter.unusedSimpArgs false
namespace Go.K
open Go.ChangeShapes Go.WideShapes Go.ChangeAt Go.RowKit
/-- A cell: a plain one, or a slice of elements of z cells. -/
inductive Sh where
  | tag (g : Nat × IntKind)
  | sl (e : TypeId) (z : Nat)
def shFields (F : TypeId → Option (List Sh)) (P : Program) : Nat → List Field → Option (List Sh)
  | _, [] => some []
  | j, f :: fs => if f.offset = j then match F f.type with
    | some g => if g.length = P.cellsOf f.type then match shFields F P (j + g.length) fs with
      | some gs => some (g ++ gs)
      | none => none
      else none
    | none => none
    else none
def shN (P : Program) : Nat → TypeId → Option (List Sh)
  | 0, _ => none
  | d + 1, t => match tagOf P t with
    | some g => if P.cellsOf t = 1 then some [.tag g] else none
    | none => match P.underlying t with
      | some (.struct fs) => match shFields (shN P d) P 0 fs.toList with
        | some gs => if gs.length = P.cellsOf t then some gs else none
        | none => none
      | some (.slice e) => if P.cellsOf t = 1 ∧ 0 < P.cellsOf e then some [.sl e (P.cellsOf e)] else none
      | _ => none
section
variable {H : Type} {enc : TypeId × Value → H} {P : Program} {w : World} {base : Nat} {spare : Nat → Bool} {held : Bool}
/-- What such a cell holds. -/
def shV (enc : TypeId × Value → H) (P : Program) (w : World) (base : Nat) (spare : Nat → Bool) (held : Bool) : Sh → Value → Prop
  | .tag g, v => wfV g v
  | .sl e z, v => ∃ rows : List (List Value), Rd (allV w) [] z v rows.length rows.flatten ∧ rows.length ≤ 9223372036854775807 ∧ ∀ q, q ∈ rows → ∃ fuel x, DataW.trod enc P w base spare held fuel e q = some x
def shVs (enc : TypeId × Value → H) (P : Program) (w : World) (base : Nat) (spare : Nat → Bool) (held : Bool) : List Sh → List Value → Prop
  | [], [] => True
  | g :: gs, v :: vs => shV enc P w base spare held g v ∧ shVs enc P w base spare held gs vs
  | _, _ => False
theorem shVs_append : ∀ {gs hs : List Sh} {xs ys : List Value}, shVs enc P w base spare held gs xs → shVs enc P w base spare held hs ys → shVs enc P w base spare held (gs ++ hs) (xs ++ ys)
  | [], _, [], _, _, h => h
  | [], _, _ :: _, _, h, _ => h.elim
  | _ :: _, _, [], _, h, _ => h.elim
  | _ :: _, _, _ :: _, _, h, k => ⟨h.1, shVs_append h.2 k⟩
theorem shVs_len : ∀ {gs : List Sh} {xs : List Value}, shVs enc P w base spare held gs xs → xs.length = gs.length
  | [], [], _ => rfl
  | [], _ :: _, h => h.elim
  | _ :: _, [], h => h.elim
  | _ :: _, _ :: _, h => by simp [shVs_len h.2]
theorem shVs_cons {g : Sh} {gs : List Sh} {cs : List Value} (h : shVs enc P w base spare held (g :: gs) cs) : ∃ v vs, cs = v :: vs ∧ shV enc P w base spare held g v ∧ shVs enc P w base spare held gs vs := by
  match cs, h with
  | v :: vs, h => exact ⟨v, vs, rfl, h.1, h.2⟩
theorem shVs_nil {cs : List Value} (h : shVs enc P w base spare held [] cs) : cs = [] := by
  match cs, h with
  | [], _ => rfl
theorem shVs_fields {F : TypeId → Option (List Sh)} {cs : List Value} : ∀ (l : List Field) (j : Nat) (gs : List Sh), shFields F P j l = some gs → cs.length = j + gs.length →
    (∀ (f : Field), f ∈ l → ∀ g, F f.type = some g → shVs enc P w base spare held g ((cs.drop f.offset).take (P.cellsOf f.type))) → shVs enc P w base spare held gs (cs.drop j)
  | [], j, gs, hf, hl, _ => by
    cases hf
    rw [List.drop_eq_nil_of_le (by simpa using Nat.le_of_eq hl)]; trivial
  | f :: fs, j, gs, hf, hl, hc => by
    unfold shFields at hf
    split at hf
    · rename_i ho
      split at hf
      · rename_i g hg
        split at hf
        · rename_i hlen
          split at hf
          · rename_i gs' h2
            cases hf
            have h1 := hc f (List.mem_cons_self ..) g hg
            rw [ho, ← hlen] at h1
            have h3 := shVs_fields fs (j + g.length) gs' h2 (by rw [hl, List.length_append]; omega) (fun f' hf' => hc f' (List.mem_cons_of_mem _ hf'))
            have e : cs.drop j = (cs.drop j).take g.length ++ cs.drop (j + g.length) := by rw [← List.drop_drop, List.take_append_drop]
            rw [e]
            exact shVs_append h1 h3
          · cases hf
        · cases hf
      · cases hf
    · cases hf
/-- A slice reads in the world as it stands; each element is told so. -/
theorem trod_rows {t e : TypeId} {z fuel : Nat} {cs : List Value} {x : DataW H × List MemPlace} (hu : P.underlying t = some (.slice e)) (hc : P.cellsOf e = z) (hz0 : 0 < z) (hd : DataW.trod enc P w base spare held fuel t cs = some x) :
    ∃ v, cs = [v] ∧ shV enc P w base spare held (.sl e z) v := by
  rcases DataW.trod_slice hu hd with ⟨hcs, _⟩ | ⟨a, len, cap, elems, rest, n, _, hcs, _, hb, hl, hm, hlen, hel, _, _⟩
  · exact ⟨_, hcs, [], ⟨by simp, none, 0, rfl, Nat.le_refl _, .inl rfl⟩, by simp, fun q hq => by cases hq⟩
  · refine ⟨_, hcs, ?_⟩
    rw [hc] at hel
    have each : ∀ i, i < len → ∃ cs, w.cells? base (a.add (i * z)) z = some cs ∧ ∃ fuel x, DataW.trod enc P w base spare held fuel e cs = some x := fun i hi => by
      have h1 := hel i hi
      rw [List.getElem?_eq_getElem (by omega)] at h1
      cases hq : w.cells? base (a.add (i * z)) z with
      | none => rw [hq] at h1; cases h1
      | some cs => rw [hq] at h1; exact ⟨cs, rfl, _, _, h1⟩
    let rows : List (List Value) := (List.range len).map fun i => (w.cells? base (a.add (i * z)) z).getD []
    have hrl : rows.length = len := by simp [rows]
    have hrow : ∀ i, i < len → ∃ cs, rows[i]? = some cs ∧ w.cells? base (a.add (i * z)) z = some cs ∧ ∃ fuel x, DataW.trod enc P w base spare held fuel e cs = some x := fun i hi => by
      obtain ⟨cs, h1, h2⟩ := each i hi
      exact ⟨cs, by simp [rows, List.getElem?_map, List.getElem?_range, hi, h1], h1, h2⟩
    have hall : ∀ q, q ∈ rows → q.length = z ∧ ∃ fuel x, DataW.trod enc P w base spare held fuel e q = some x := fun q hq => by
      obtain ⟨i, hi⟩ := List.mem_iff_getElem?.1 hq
      have hlt : i < len := by rw [← hrl]; exact (List.getElem?_eq_some_iff.1 hi).1
      obtain ⟨cs, h1, h2, h3⟩ := hrow i hlt
      rw [hi] at h1; cases h1
      obtain ⟨_, hl2, _⟩ := World.cells?_some h2
      exact ⟨hl2, h3⟩
    have hlens : ∀ q, q ∈ rows → q.length = z := fun q hq => (hall q hq).1
    refine ⟨rows, ?_, by rw [hrl]; unfold maxLen at hm; omega, fun q hq => (hall q hq).2⟩
    refine ⟨?_, some a, cap, by rw [hrl], by rw [hrl]; exact hl, ?_⟩
    · clear hel each hrow hall
      have : ∀ (l : List (List Value)), (∀ q, q ∈ l → q.length = z) → l.flatten.length = l.length * z := fun l => by
        induction l with
        | nil => intro _; simp
        | cons q l ih => intro hh; rw [List.flatten_cons, List.length_append, ih (fun q' h' => hh q' (List.mem_cons_of_mem _ h')), hh q (List.mem_cons_self ..), List.length_cons, Nat.succ_mul]; omega
      exact this rows hlens
    · rw [hrl]
      by_cases h0 : len = 0
      · exact .inl h0
      · right
        have cell : ∀ i o, i < len → o < z → ∃ u, w.cell? (a.add (i * z + o)) = some u ∧ rows.flatten[i * z + o]? = some u := fun i o hi ho => by
          obtain ⟨cs, h1, h2, h3⟩ := hrow i hi
          obtain ⟨_, hl2, hcell⟩ := World.cells?_some h2
          have h4 := hcell o ho
          rw [flatten_at rows i o hlens ho, h1]
          have h5 : o < cs.length := by rw [hl2]; exact ho
          rw [List.getElem?_eq_getElem h5] at h4
          refine ⟨cs[o], ?_, by simp [List.getElem?_eq_getElem h5]⟩
          rw [← h4]; congr 1
          unfold Addr.add
          by_cases k1 : i * z = 0 <;> by_cases k2 : o = 0 <;> simp_all [Nat.add_assoc]
        obtain ⟨b, off, spot⟩ := a
        obtain ⟨u, hu0, _⟩ := cell 0 0 (by omega) hz0
        have hspot : spot = none := by simpa [Addr.add] using World.cell?_spot hu0
        subst hspot
        unfold World.cell? at hu0
        rw [Addr.add_plain] at hu0
        simp only at hu0
        cases hb : w.heap[b]? with
        | none => rw [hb] at hu0; cases hu0
        | some o =>
          rw [hb] at hu0
          cases o <;> simp only [reduceCtorEq] at hu0
          rename_i cs e' fz
          refine ⟨b, off, cs, e', fz, rfl, .inl hb, fun j hj => ?_⟩
          have hi : j / z < len := Nat.div_lt_of_lt_mul (by rw [Nat.mul_comm]; exact hj)
          have ho : j % z < z := Nat.mod_lt _ hz0
          obtain ⟨u, h1, h2⟩ := cell (j / z) (j % z) hi ho
          have ej : j / z * z + j % z = j := by rw [Nat.mul_comm]; exact Nat.div_add_mod j z
          rw [ej] at h1 h2
          unfold World.cell? at h1
          rw [Addr.add_plain] at h1
          simp only [hb] at h1
          simp only [Option.isSome_none, Bool.false_eq_true, if_false] at h1
          rw [h1, h2]
theorem trod_sh : ∀ (d : Nat) {t : TypeId} {gs : List Sh} {fuel : Nat} {cs : List Value} {x : DataW H × List MemPlace}, shN P d t = some gs → DataW.trod enc P w base spare held fuel t cs = some x → shVs enc P w base spare held gs cs
  | 0, _, _, _, _, _, h, _ => by cases h
  | d + 1, t, gs, fuel, cs, x, h, hd => by
    unfold shN at h
    split at h
    · rename_i g hg
      split at h
      · cases h
        obtain ⟨v, rfl, hw⟩ := trod_tag hg hd
        exact ⟨hw, trivial⟩
      · cases h
    · split at h
      · rename_i fs hu
        split at h
        · rename_i gs' hf
          split at h
          · rename_i hsz
            cases h
            obtain ⟨xs, n, rfl, rfl, hlen, hxl, hfl⟩ := DataW.trod_struct hu hd
            have := shVs_fields (enc := enc) (P := P) (w := w) (base := base) (spare := spare) (held := held) (cs := cs) fs.toList 0 gs hf (by rw [hlen, hsz]; simp) (fun f hm g hg => by
              obtain ⟨i, hi⟩ := List.mem_iff_getElem?.1 hm
              have hi' : fs[i]? = some f := by simpa using hi
              have hlt : i < fs.size := (Array.getElem?_eq_some_iff.1 hi').1
              have h1 := hfl i f hi'
              rw [List.getElem?_eq_getElem (by omega)] at h1
              exact trod_sh d hg h1)
            simpa using this
          · cases h
        · cases h
      · rename_i e hu
        split at h
        · rename_i hc
          cases h
          obtain ⟨v, rfl, hv⟩ := trod_rows hu rfl hc.2 hd
          exact ⟨hv, trivial⟩
        · cases h
      · cases h
/-- Bytes. -/
theorem sh_bytes {e : TypeId} {v : Value} (he : tagOf P e = some (0, .u8)) (h : shV enc P w base spare held (.sl e 1) v) : ∃ bs : List UInt8, Rd (allV w) [] 1 v bs.length (bs.map byteV) := by
  obtain ⟨rows, hr, _, hq⟩ := h
  have all : ∀ (rows : List (List Value)), (∀ q, q ∈ rows → ∃ fuel x, DataW.trod enc P w base spare held fuel e q = some x) → ∃ bs : List UInt8, bs.length = rows.length ∧ rows.flatten = bs.map byteV := fun rows => by
    induction rows with
    | nil => intro _; exact ⟨[], rfl, rfl⟩
    | cons q rows ih =>
      intro hh
      obtain ⟨bs, h1, h2⟩ := ih fun q' h' => hh q' (List.mem_cons_of_mem _ h')
      obtain ⟨fuel, x, hd⟩ := hh q (List.mem_cons_self ..)
      obtain ⟨u, rfl, hw⟩ := trod_tag he hd
      obtain ⟨n, rfl, hn⟩ := wfV_int hw
      have hb : 0 ≤ n ∧ n ≤ 255 := Go.bounds_u8 hn
      exact ⟨UInt8.ofNat n.toNat :: bs, by simp [h1], by rw [List.flatten_cons, h2, List.map_cons, byteV_of hb]; rfl⟩
  obtain ⟨bs, h1, h2⟩ := all rows hq
  rw [h2, ← h1] at hr
  exact ⟨bs, hr⟩
end
end Go.K

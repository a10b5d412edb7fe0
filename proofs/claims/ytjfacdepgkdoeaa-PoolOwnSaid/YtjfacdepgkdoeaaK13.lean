/- Slices among a law's arguments.
Conditions: none; nothing here speaks of a program. -/
import Derived.Test.YtjfacdepgkdoeaaK11
namespace Go.K
open Go.ChangeShapes Go.WideShapes Go.ChangeAt Go.RowKit
section
variable {H : Type} {enc : TypeId × Value → H} {P : Program} {w : World} {held : Bool}

theorem under_int {t : TypeId} {k : IntKind} (ht : tagOf P t = some (0, k)) : P.underlying t = some (.int k) := by
  unfold tagOf at ht
  cases hd : P.underlying t with
  | none => rw [hd] at ht; cases ht
  | some q => rw [hd] at ht; cases q <;> simp at ht <;> rw [ht]

/-- A slice of numbers reads in the world as it stands. -/
theorem open_nums {r : Reach} {b0 base : Nat} {spare : Nat → Bool} {t e : TypeId} {k : IntKind} {v : Value} {d : DataW H} {ps : List MemPlace} (ht : elemS P t = some (e, 1)) (he : tagOf P e = some (0, k)) (hc : P.cellsOf e = 1)
    (hv : Value.okWide P w r b0 t v) (h : DataW.Trod enc P w base spare held t v d ps) : ∃ zs : List Int, Rd (allV w) [] 1 v zs.length (zs.map (Value.int k)) ∧ zs.length ≤ 9223372036854775807 ∧ ∀ n ∈ zs, (Lit.int k n).wf = true := by
  have hu := (under_elemS ht).1
  obtain ⟨a0, len, cap, rfl⟩ := okWide_slice hu hv
  obtain ⟨fuel, hf⟩ := h
  rcases open_ints hu (under_int he) hc (by simpa [Value.cells] using hf) with ⟨hcs, _⟩ | ⟨a, len', cap', zs, hcs, _, hl, hm, hz, _, hcell, hwf⟩
  · simp only [List.cons.injEq, and_true] at hcs
    cases hcs
    exact ⟨[], ⟨rfl, none, 0, rfl, Nat.le_refl _, .inl rfl⟩, by simp, fun n hn => by cases hn⟩
  · simp only [List.cons.injEq, and_true] at hcs
    cases hcs
    have hle : len ≤ zs.length := by rw [hz]; split <;> omega
    have hlen : (zs.take len).length = len := by rw [List.length_take]; omega
    refine ⟨zs.take len, ?_, by rw [hlen]; unfold maxLen at hm; omega, fun n hn => hwf n (List.mem_of_mem_take hn)⟩
    rw [hlen]
    refine ⟨by simp; omega, _, _, rfl, hl, ?_⟩
    by_cases h0 : len = 0
    · exact .inl h0
    · right
      obtain ⟨b, off, rfl, hc2⟩ := ints_at hcell (by omega)
      have hc0 := hc2 0 (by omega)
      unfold World.cell? at hc0
      simp only at hc0
      cases hb : w.heap[b]? with
      | none => rw [hb] at hc0; cases hc0
      | some o =>
        rw [hb] at hc0
        cases o <;> simp only [reduceCtorEq] at hc0
        rename_i cs e' fz
        refine ⟨b, off, cs, e', fz, rfl, .inl hb, fun j hj => ?_⟩
        have h3 := hc2 j (by omega)
        unfold World.cell? at h3
        simp only [hb] at h3
        simp only [Option.isSome_none, Bool.false_eq_true, if_false] at h3
        rw [h3, List.getElem?_map, List.getElem?_take, if_pos (by omega), List.getElem?_eq_getElem (by omega)]
        simp [List.getD_eq_getElem?_getD, List.getElem?_eq_getElem (show j < zs.length by omega)]

theorem open_bytes {r : Reach} {b0 base : Nat} {spare : Nat → Bool} {t e : TypeId} {v : Value} {d : DataW H} {ps : List MemPlace} (ht : elemS P t = some (e, 1)) (he : tagOf P e = some (0, .u8)) (hc : P.cellsOf e = 1)
    (hv : Value.okWide P w r b0 t v) (h : DataW.Trod enc P w base spare held t v d ps) : ∃ bs : List UInt8, Rd (allV w) [] 1 v bs.length (bs.map byteV) ∧ bs.length ≤ 9223372036854775807 := by
  obtain ⟨zs, h1, h2, h3⟩ := open_nums ht he hc hv h
  have e : zs.map (Value.int .u8) = (zs.map fun z => UInt8.ofNat z.toNat).map byteV := by
    rw [List.map_map]
    refine List.map_congr_left fun z hz => ?_
    exact (byteV_of (bounds_u8 (h3 z hz))).symm
  refine ⟨zs.map fun z => UInt8.ofNat z.toNat, ?_, by simpa using h2⟩
  rw [← e, List.length_map]; exact h1
end
end Go.K

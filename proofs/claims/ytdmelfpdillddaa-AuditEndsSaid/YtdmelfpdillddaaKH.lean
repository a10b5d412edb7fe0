/- A law's row, where an argument's bytes play a part.
Conditions: none. -/
import Derived.Test.YtdmelfpdillddaaKB
import Derived.SizedLaws
set_option linter.unusedSimpArgs false
set_option linter.unusedVariables false
set_option linter.unusedSectionVars false
namespace Go.K
open Go.ChangeShapes Go.WideShapes Go.ChangeAt Go.RowKit
section
variable {H : Type} {enc : TypeId × Value → H} {P : Program} {w : World} {base : Nat} {spare : Nat → Bool} {held : Bool}
theorem law_sized {a : Assume} {C : Checked} {os : Os} {f : FuncId} {fn : Func} {s : ChangeSpec} {conds : List PathCond} {apart : Bool} {tb : TypeId} (own : ownKnob C.prog.godebug = none) (started : os.Started) (noInit : C.prog.inits.idxOf? f = none) (hfn : C.prog.funcs[f]? = some fn)
    (witness : ∃ (w : World) (tape : Tape) (i : Input), w.os = os ∧ (w.forCall tape i).Shaped C.prog ∧ i.vars = [] ∧ Input.okWide C.prog (w.forCall tape i) .any w.heap.size f i ∧
      s.pre6 enc C.prog fn conds apart (w.forCall tape i).memory i.args ∧ a.holds C.prog (lone (Frame.enter C.prog f i.args .normal) [] (w.forCall tape i)))
    (hl : laidOutB C.prog = true) (hpar : (fn.params.toList.all fun t => C.prog.readableRec t && decide (t < C.prog.types.size)) = true) (hvars : s.vars = []) (hres : fn.resultTypes = #[tb]) (htb : C.prog.underlying tb = some .bool)
    (hspec : ∀ ds : List (DataW H), ds.length = fn.params.toList.length → s.fn H ds = { results := [.lit (.bool true)], args := ds })
    (walk : ∀ (W : World) (base : Nat) (args : Array Value) (ds : List (DataW H)) (ps : List MemPlace), (∀ (j : Nat) t v, fn.params[j]? = some t → args[j]? = some v → Value.okWide C.prog W .any base t v) → (∀ (j : Nat) t e (elems sp : List (DataW H)), fn.params.toList[j]? = some t → ds[j]? = some (.slice elems sp) → C.prog.underlying t = some (.slice e) → (elems.length + sp.length) * C.prog.bytesOf e ≤ reachBytes) → DataW.TrodAll enc C.prog W 0 (fun _ => true) true fn.params.toList args.toList ds ps →
      Does C.prog f args.toList (allV W) [] (fun v _ _ => v = .bool true)) :
    ReturnsInHanded a C os f .any (s.pre6 enc C.prog fn conds apart) (s.post enc C.prog fn apart true false false) := by
  refine returnsInHanded_of_change_sized own started noInit hfn witness ?_
  intro W base args ds gs before hval hW _ hz _
  have hW' := hW
  have hlt := fun x hx => hW.lt x hx
  obtain ⟨p, q, hA, hV, hbef, hfz, hnd⟩ := hW
  rw [hvars] at hV
  obtain ⟨rfl, rfl⟩ := trodVars_none hV
  rw [List.append_nil] at hbef
  subst hbef
  have := (walk W base args ds before hval (fun j t e elems sp ht hd hu => sized_slice hz (j := j) (by rw [List.getElem?_append_left (List.getElem?_eq_some_iff.1 ht).1]; exact ht) (by rw [List.append_nil]; exact hd) hu) hA).2 W (St.all W)
  rw [Array.toArray_toList] at this
  refine this.mono fun e W' ⟨v, V', H', he, hv, hst⟩ => ⟨v, he, ?_⟩
  subst hv
  have hb := St.below hst
  have hsp := hspec ds (trodAll_len hA)
  refine ⟨ds, [], before, [], before, [], hW', ?_, ?_, ?_, hb.frame _, fun h => by cases h⟩
  · rw [List.append_nil, hsp, hres]; exact trodAll_mk1 (shut_bool htb true)
  · rw [List.append_nil, hsp]; exact trodAll_below hl hb hpar hA hlt
  · rw [List.append_nil, hsp, hvars]; rfl
theorem rows_bytes {t e : TypeId} {z n : Nat} {v : Value} {dd : DataW H} {ps : List MemPlace} {V : Vw} {Hh : Hp} {xs : List Value} (ht : elemS P t = some (e, z)) (h : DataW.Trod enc P w base spare held t v dd ps) (hr : Rd V Hh z v n xs)
    (hz : ∀ elems sp : List (DataW H), dd = .slice elems sp → (elems.length + sp.length) * P.bytesOf e ≤ reachBytes) : n * P.bytesOf e ≤ reachBytes := by
  have hu := (under_elemS ht).1
  obtain ⟨p, c, rfl, _⟩ := hr.form
  obtain ⟨fuel, hf⟩ := h
  rcases DataW.trod_slice hu (by simpa [Value.cells] using hf) with ⟨hcs, _⟩ | ⟨a, len', cap', elems, rest, k, _, hcs, hx, hb, hl, hm, hlen, hel, _, _⟩
  · simp only [List.cons.injEq, and_true] at hcs
    cases hcs
    rw [Nat.zero_mul]; exact Nat.zero_le _
  · simp only [List.cons.injEq, and_true] at hcs
    cases hcs
    have hd := (Prod.mk.inj hx).1
    have := hz _ _ hd
    rw [List.length_map, List.length_map, hlen] at this
    exact Nat.le_trans (Nat.mul_le_mul_right _ (Nat.le_add_right _ _)) this
end
end Go.K

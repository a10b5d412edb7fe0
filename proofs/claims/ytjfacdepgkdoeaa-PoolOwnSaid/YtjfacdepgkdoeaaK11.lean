/- From a law's walk to its row: the arguments are opened, what the call laid is above what was there.
Conditions: none; nothing here speaks of a program. -/
import Derived.Test.YtjfacdepgkdoeaaK10
import Derived.WalkKit
import Derived.ProofKit
import Derived.OpenShut
namespace Go.K
open Go.ChangeShapes Go.WideShapes Go.ChangeAt Go.RowKit
section
variable {H : Type} {enc : TypeId × Value → H} {P : Program} {w : World} {base : Nat} {spare : Nat → Bool} {held : Bool}

/-- A datum of tag g: a number of its kind, a bool, a text. -/
def wfV : Nat × IntKind → Value → Prop
  | (0, k), .int k' n => k' = k ∧ (Lit.int k n).wf = true
  | (1, _), .bool _ => True
  | (2, _), .string s => s.size ≤ 9223372036854775807
  | _, _ => False
def wfVs : List (Nat × IntKind) → List Value → Prop
  | [], [] => True
  | g :: gs, v :: vs => wfV g v ∧ wfVs gs vs
  | _, _ => False

theorem trod_tag {t : TypeId} {g : Nat × IntKind} {fuel : Nat} {cs : List Value} {x : DataW H × List MemPlace} (ht : tagOf P t = some g) (h : DataW.trod enc P w base spare held fuel t cs = some x) : ∃ v, cs = [v] ∧ wfV g v := by
  unfold tagOf at ht
  cases hu : P.underlying t with
  | none => rw [hu] at ht; cases ht
  | some u =>
    rw [hu] at ht
    cases u <;> simp only [reduceCtorEq, Option.some.injEq] at ht
    · subst ht; obtain ⟨b, rfl, _⟩ := DataW.trod_bool hu h; exact ⟨_, rfl, trivial⟩
    · subst ht; obtain ⟨n, rfl, _, hw⟩ := DataW.trod_int hu h; exact ⟨_, rfl, rfl, hw⟩
    · subst ht; obtain ⟨s, rfl, _, hs⟩ := DataW.trod_string hu h; exact ⟨_, rfl, by unfold maxLen at hs; exact hs⟩

def flatFrom (P : Program) : Nat → List Field → Option (List (Nat × IntKind))
  | _, [] => some []
  | j, f :: fs => if f.offset = j ∧ P.cellsOf f.type = 1 then match tagOf P f.type, flatFrom P (j + 1) fs with
    | some g, some gs => some (g :: gs)
    | _, _ => none
    else none
/-- A struct whose fields are one cell each: their tags. -/
def flat (P : Program) (t : TypeId) : Option (List (Nat × IntKind)) := match P.underlying t with
  | some (.struct fs) => if P.cellsOf t = fs.size then flatFrom P 0 fs.toList else none
  | _ => none

theorem wfVs_of {cs : List Value} : ∀ (l : List Field) (j : Nat) (gs : List (Nat × IntKind)), flatFrom P j l = some gs → cs.length = j + l.length →
    (∀ (i : Nat) (f : Field), l[i]? = some f → f.offset = j + i → P.cellsOf f.type = 1 → ∀ g, tagOf P f.type = some g → ∃ v, cs[j + i]? = some v ∧ wfV g v) → wfVs gs (cs.drop j)
  | [], j, gs, hf, hl, _ => by
    cases hf
    rw [List.drop_eq_nil_of_le (by simpa using Nat.le_of_eq hl)]; trivial
  | f :: fs, j, gs, hf, hl, hc => by
    unfold flatFrom at hf
    split at hf
    · rename_i hcond
      split at hf
      · rename_i g gs' h1 h2
        cases hf
        obtain ⟨v, hv, hw⟩ := hc 0 f rfl (by simpa using hcond.1) hcond.2 g h1
        rw [Nat.add_zero] at hv
        obtain ⟨hlt, hv⟩ := List.getElem?_eq_some_iff.1 hv
        rw [List.drop_eq_getElem_cons hlt, hv]
        refine ⟨hw, wfVs_of fs (j + 1) gs' h2 (by simp at hl; omega) fun i f' hi ho hc1 g' hg' => ?_⟩
        have := hc (i + 1) f' (by simpa using hi) (by omega) hc1 g' hg'
        rwa [show j + 1 + i = j + (i + 1) from by omega]
      · cases hf
    · cases hf

/-- Offsets, read off the bool. -/
theorem flat_off : ∀ (l : List Field) (j : Nat) (gs : List (Nat × IntKind)), flatFrom P j l = some gs → ∀ (i : Nat) (f : Field), l[i]? = some f → f.offset = j + i ∧ P.cellsOf f.type = 1
  | [], _, _, _, i, f, h => by simp at h
  | f :: fs, j, gs, hf, i, f', hi => by
    unfold flatFrom at hf
    split at hf
    · rename_i hcond
      split at hf
      · rename_i g gs' h1 h2
        cases i with
        | zero => simp at hi; subst hi; exact ⟨by simpa using hcond.1, hcond.2⟩
        | succ i => have := flat_off fs (j + 1) gs' h2 i f' (by simpa using hi); exact ⟨by omega, this.2⟩
      · cases hf
    · cases hf

theorem trod_flat {t : TypeId} {gs : List (Nat × IntKind)} {fuel : Nat} {cs : List Value} {x : DataW H × List MemPlace} (ht : flat P t = some gs) (h : DataW.trod enc P w base spare held fuel t cs = some x) : wfVs gs cs := by
  unfold flat at ht
  split at ht
  · rename_i fs hu
    split at ht
    · rename_i hsz
      obtain ⟨xs, n, rfl, rfl, hlen, hxl, hf⟩ := DataW.trod_struct hu h
      have := wfVs_of (cs := cs) fs.toList 0 gs ht (by rw [hlen, hsz]; simp) fun i f hi ho hc g hg => by
        have hi' : fs[i]? = some f := by simpa using hi
        have hlt : i < fs.size := (Array.getElem?_eq_some_iff.1 hi').1
        have h1 := hf i f hi'
        rw [ho, hc, Nat.zero_add, List.getElem?_eq_getElem (by omega)] at h1
        obtain ⟨v, hv, hw⟩ := trod_tag hg h1
        refine ⟨v, ?_, hw⟩
        have h2 : i < cs.length := by omega
        rw [List.drop_eq_getElem_cons h2] at hv
        simp only [List.take_succ_cons, List.take_zero, List.cons.injEq, and_true] at hv
        rw [Nat.zero_add, List.getElem?_eq_getElem h2, hv]
      simpa using this
    · cases ht
  · cases ht

theorem open_flat {r : Reach} {b0 : Nat} {t : TypeId} {v : Value} {d : DataW H} {ps : List MemPlace} {gs : List (Nat × IntKind)} (ht : flat P t = some gs) (hv : Value.okWide P w r b0 t v) (h : DataW.Trod enc P w base spare held t v d ps) : ∃ cs : List Value, v = .agg cs.toArray ∧ wfVs gs cs := by
  have hs : ∃ fs, P.underlying t = some (.struct fs) := by
    unfold flat at ht; split at ht
    · exact ⟨_, ‹_›⟩
    · cases ht
  obtain ⟨fs, hs⟩ := hs
  obtain ⟨cs, rfl, _⟩ := okWide_struct hs hv
  obtain ⟨fuel, hf⟩ := h
  exact ⟨cs.toList, by simp, trod_flat ht (by simpa [Value.cells] using hf)⟩

theorem wfVs_cons {g : Nat × IntKind} {gs : List (Nat × IntKind)} {cs : List Value} (h : wfVs (g :: gs) cs) : ∃ v vs, cs = v :: vs ∧ wfV g v ∧ wfVs gs vs := by
  cases cs with
  | nil => exact h.elim
  | cons v vs => exact ⟨v, vs, rfl, h.1, h.2⟩
theorem wfVs_nil {cs : List Value} (h : wfVs [] cs) : cs = [] := by
  cases cs with
  | nil => rfl
  | cons v vs => exact h.elim
theorem wfV_int {k : IntKind} {v : Value} (h : wfV (0, k) v) : ∃ n, v = .int k n ∧ (Lit.int k n).wf = true := by
  cases v <;> simp only [wfV] at h
  obtain ⟨rfl, h⟩ := h; exact ⟨_, rfl, h⟩
theorem wfV_bool {k : IntKind} {v : Value} (h : wfV (1, k) v) : ∃ b, v = .bool b := by
  cases v <;> simp only [wfV] at h
  exact ⟨_, rfl⟩
theorem wfV_str {k : IntKind} {v : Value} (h : wfV (2, k) v) : ∃ s, v = .string s ∧ s.size ≤ 9223372036854775807 := by
  cases v <;> simp only [wfV] at h
  exact ⟨_, rfl, h⟩

theorem open_i64 {r : Reach} {b0 : Nat} {t : TypeId} {v : Value} {d : DataW H} {ps : List MemPlace} (ht : tagOf P t = some (0, .i64)) (h : DataW.Trod enc P w base spare held t v d ps) (hv : Value.okWide P w r b0 t v) : ∃ n, v = .int .i64 n ∧ -9223372036854775808 ≤ n ∧ n ≤ 9223372036854775807 := by
  have hu : P.underlying t = some (.int .i64) := by
    unfold tagOf at ht
    cases hd : P.underlying t with
    | none => rw [hd] at ht; cases ht
    | some q => rw [hd] at ht; cases q <;> simp at ht <;> rw [ht]
  obtain ⟨n, rfl, _, _, hw⟩ := open_int hu hv h
  exact ⟨n, rfl, bounds_i64 hw⟩

/-- A world as it stands: all of it is known. -/
def allV (W : World) : Vw := fun b => W.heap[b]?
theorem St.all (W : World) : St W [] (allV W) (allV W) [] W :=
  ⟨rfl, rfl, rfl, Nat.le_refl _, fun _ _ _ => rfl, fun _ _ h => (by cases h), List.nodup_nil, fun _ h => (by cases h), Vw.le_refl _, fun _ _ h => h, fun _ _ _ h => (by cases h), fun _ _ h => .inl h⟩
theorem St.below {W W' : World} {V : Vw} {H : Hp} (h : St W [] (allV W) V H W') : Below W.heap.size W W' := ⟨h.os, h.tape, h.output, h.size, fun b hb => h.fr b hb (by simp)⟩

theorem trodAll_below (hl : laidOutB P = true) {W W' : World} (hb : Below W.heap.size W W') : ∀ {ts : List TypeId} {vs : List Value} {ds : List (DataW H)} {ps : List MemPlace}, (ts.all fun t => P.readableRec t && decide (t < P.types.size)) = true →
    DataW.TrodAll enc P W 0 (fun _ => true) true ts vs ds ps → (∀ x ∈ ps, x.block < W.heap.size) → DataW.TrodAll enc P W' 0 (fun b => decide (b < W.heap.size)) true ts vs ds ps
  | [], _, _, _, _, h, _ => by obtain ⟨rfl, rfl, rfl⟩ := trodAll_nil h; exact trodAll_mk0
  | t :: ts, _, _, _, hr, h, hlt => by
    obtain ⟨v, vs, d, ds, p, q, rfl, rfl, rfl, h0, r0⟩ := trodAll_cons h
    simp only [List.all_cons, Bool.and_eq_true, decide_eq_true_eq] at hr
    exact trodAll_cons_mk (Below.trod hl hr.1.1 hr.1.2 h0 hb (fun x hx => hlt x (List.mem_append_left _ hx))) (trodAll_below hl hb hr.2 r0 (fun x hx => hlt x (List.mem_append_right _ hx)))
theorem trodAll_len : ∀ {ts : List TypeId} {vs : List Value} {ds : List (DataW H)} {ps : List MemPlace}, DataW.TrodAll enc P w base spare held ts vs ds ps → ds.length = ts.length
  | [], _, _, _, h => by obtain ⟨_, rfl, _⟩ := trodAll_nil h; rfl
  | t :: ts, _, _, _, h => by
    obtain ⟨v, vs, d, ds, p, q, rfl, rfl, rfl, h0, r0⟩ := trodAll_cons h
    simp [trodAll_len r0]

/-- A law that is true whatever its arguments, and leaves them. -/
theorem law_lifted {a : Assume} {C : Checked} {os : Os} {f : FuncId} {fn : Func} {s : ChangeSpec} {conds : List PathCond} {apart : Bool} {tb : TypeId} (own : ownKnob C.prog.godebug = none) (started : os.Started) (noInit : C.prog.inits.idxOf? f = none) (hfn : C.prog.funcs[f]? = some fn)
    (witness : ∃ (w : World) (tape : Tape) (i : Input), w.os = os ∧ (w.forCall tape i).Shaped C.prog ∧ i.vars = [] ∧ Input.okWide C.prog (w.forCall tape i) .any w.heap.size f i ∧
      s.pre6 enc C.prog fn conds apart (w.forCall tape i).memory i.args ∧ a.holds C.prog (lone (Frame.enter C.prog f i.args .normal) [] (w.forCall tape i)))
    (hl : laidOutB C.prog = true) (hpar : (fn.params.toList.all fun t => C.prog.readableRec t && decide (t < C.prog.types.size)) = true) (hvars : s.vars = []) (hres : fn.resultTypes = #[tb]) (htb : C.prog.underlying tb = some .bool)
    (hspec : ∀ ds : List (DataW H), ds.length = fn.params.toList.length → s.fn H ds = { results := [.lit (.bool true)], args := ds })
    (walk : ∀ (W : World) (base : Nat) (args : Array Value) (ds : List (DataW H)) (ps : List MemPlace), (∀ (j : Nat) t v, fn.params[j]? = some t → args[j]? = some v → Value.okWide C.prog W .any base t v) → DataW.TrodAll enc C.prog W 0 (fun _ => true) true fn.params.toList args.toList ds ps →
      Does C.prog f args.toList (allV W) [] (fun v _ _ => v = .bool true)) :
    ReturnsInHanded a C os f .any (s.pre6 enc C.prog fn conds apart) (s.post enc C.prog fn apart true false false) := by
  refine returnsInHanded_of_change own started noInit hfn witness ?_
  intro W base args ds gs before hval hW _ _
  have hW' := hW
  have hlt := fun x hx => hW.lt x hx
  obtain ⟨p, q, hA, hV, hbef, hfz, hnd⟩ := hW
  rw [hvars] at hV
  obtain ⟨rfl, rfl⟩ := trodVars_none hV
  rw [List.append_nil] at hbef
  subst hbef
  have := (walk W base args ds before hval hA).2 W (St.all W)
  rw [Array.toArray_toList] at this
  refine this.mono fun e W' ⟨v, V', H', he, hv, hst⟩ => ⟨v, he, ?_⟩
  subst hv
  have hb := St.below hst
  have hsp := hspec ds (trodAll_len hA)
  refine ⟨ds, [], before, [], before, [], hW', ?_, ?_, ?_, hb.frame _, fun h => by cases h⟩
  · rw [List.append_nil, hsp, hres]; exact trodAll_mk1 (shut_bool htb true)
  · rw [List.append_nil, hsp]; exact trodAll_below hl hb hpar hA hlt
  · rw [List.append_nil, hsp, hvars]; rfl
end
end Go.K

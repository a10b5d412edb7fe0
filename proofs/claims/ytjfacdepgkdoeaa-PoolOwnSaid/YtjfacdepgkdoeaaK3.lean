/- The rules of the walks, on: calls; blocks that are made and written.
Conditions: none; nothing here speaks of a program. -/
import Derived.Test.YtjfacdepgkdoeaaK2
namespace Go.K

section
variable {C : Cx} {V : Vw} {H : Hp} {L : Sl} {Q : Exit → Act → World → Prop} {ops : Array Oper} {os : List Oper}
variable {ty : TypeId} {pos : String} {aft : Array Edge} {d : Nat}

/-! ### Calls -/
/-- Some pieces of what is owned, taken out one by one: the first is what stays. -/
def pull : List Nat → Hp → Hp × Hp
  | [], H => (H, [])
  | i :: is, H => match H[i]? with
    | some s => ((pull is (H.eraseIdx i)).1, s :: (pull is (H.eraseIdx i)).2)
    | none => pull is H

theorem perm_eraseIdx {α : Type} : ∀ (l : List α) (i : Nat) (x : α), l[i]? = some x → (x :: l.eraseIdx i).Perm l
  | y :: l, 0, x, h => by cases h; exact List.Perm.refl _
  | y :: l, i + 1, x, h => by
    simp only [List.getElem?_cons_succ] at h
    simp only [List.eraseIdx_cons_succ]
    exact (List.Perm.swap y x _).trans ((perm_eraseIdx l i x h).cons y)

theorem pull_perm : ∀ (is : List Nat) (H : Hp), ((pull is H).1 ++ (pull is H).2).Perm H
  | [], H => by simp [pull]
  | i :: is, H => by
    unfold pull
    split
    · rename_i s hs
      refine List.Perm.trans ?_ (perm_eraseIdx H i s hs)
      refine List.Perm.trans List.perm_middle ?_
      exact (pull_perm is (H.eraseIdx i)).cons s
    · exact pull_perm is H

theorem run_callFunc {P : Program} {f : FuncId} {args : List Value} {w : World} (h : ∃ fn, P.funcs[f]? = some fn ∧ (fn.name == "runtime.NumGoroutine") = false ∧ fn.body.isNone = false) :
    (callFunc f args.toArray).run P w = .ok (.enter f args.toArray) w := by
  obtain ⟨fn, h1, h2, h3⟩ := h
  have hp : (program : Sem Program).run P w = .ok P w := rfl
  simp only [callFunc, Sem.run_bind, hp, Result.andThen_ok, h1, h2, h3, Bool.false_eq_true, if_false, Sem.run_pure]

theorem Run.call {x : Operand} {l : List Operand} {at_ : Array TypeId} {f : FuncId} {first cap : Array Value} {vs args : List Value} {R : Value → Vw → Hp → Prop} (is : List Nat)
    (hx : ev L x = some (.func (.func f) first cap)) (hl : evs L l = some vs) (ha : first.toList ++ vs ++ cap.toList = args) (hd : d < C.n) (hc : Does C.P f args V (pull is H).2 R)
    (k : ∀ v V' H', V.le V' → R v V' H' → Run C ops V' ((pull is H).1 ++ H') ((d, v) :: L) os Q) :
    Run C ops V H L (⟨some d, .call { callee := .value x, args := l.toArray, argTypes := at_ }, ty, pos, aft, none⟩ :: os) Q := fun a w i => by
  unfold wpList
  rw [if_pos (by simp [Region.wanted])]
  refine .inl ?_
  unfold Oper.wp
  have hst : St C.B C.S C.U V ((pull is H).1 ++ (pull is H).2) w := i.2.perm (pull_perm is H)
  have e1 := i.1.ev hx
  have e2 := i.1.evs hl
  have hr : (execOp a.eval ⟨some d, .call { callee := .value x, args := l.toArray, argTypes := at_ }, ty, pos, aft, none⟩).run C.P w = .ok (.enter f args.toArray) w := by
    have ha' : first ++ (l.map a.eval).toArray ++ cap = args.toArray := by rw [e2, ← ha]; simp
    simp only [execOp, resolve, e1, Deferred.ofValue, Sem.run_bind, Sem.run_pure, Result.andThen_ok, invoke, List.map_toArray, ha']
    exact run_callFunc hc.1
  rw [hr]
  refine (hc.2 w hst.give).mono fun e w' ⟨v, V', H', he, hR, hs⟩ => ?_
  subst he
  have h2 := hst.take hs
  exact k v V' H' hs.le hR _ _ ⟨i.1.put hd v, h2⟩

/-! ### New blocks -/
def zeroOf (P : Program) (t : TypeId) : Option Value := (P.info? t).bind (·.zero)
theorem run_zeroValue {P : Program} {t : TypeId} {w : World} {z : Value} (h : zeroOf P t = some z) : (zeroValue t).run P w = .ok z w := by
  unfold zeroOf at h
  cases hj : P.info? t with
  | none => rw [hj] at h; cases h
  | some j => rw [hj] at h; simp only [Option.bind_some] at h; simp [zeroValue, typeInfo, hj, program, Sem.run, h]
def sizeT (P : Program) (t : TypeId) : Option Nat := (P.info? t).map (·.size)
theorem run_sizeOf {P : Program} {t : TypeId} {w : World} {z : Nat} (h : sizeT P t = some z) : (sizeOf t).run P w = .ok z w := by
  unfold sizeT at h
  cases hj : P.info? t with
  | none => rw [hj] at h; cases h
  | some j => rw [hj] at h; cases h; simp [sizeOf, typeInfo, hj, program, Sem.run]

theorem Run.alloc {t : TypeId} {z : Value} (hz : zeroOf C.P t = some z) (hd : d < C.n) (k : ∀ b, Run C ops V ([(b, .cells z.cells t)] :: H) ((d, .pointer (some ⟨b, 0, none⟩)) :: L) os Q) :
    Run C ops V H L (⟨some d, .alloc t, ty, pos, aft, none⟩ :: os) Q :=
  Run.step (p := fun v V' H' => ∃ b, v = .pointer (some ⟨b, 0, none⟩) ∧ V' = V ∧ H' = [(b, .cells z.cells t)] :: H) hd
    (fun a w i => ⟨_, _, V, _, by simp only [execOp, Instr.alloc, Sem.run_bind, run_zeroValue hz, Result.andThen_ok, newVar, newRow, newObj]; rfl, ⟨_, rfl, rfl, rfl⟩, i.2.alloc _⟩)
    (fun v V' H' ⟨b, h1, h2, h3⟩ => by subst h1 h2 h3; exact k b)

theorem Run.box {t : TypeId} {x : Operand} {z : Value} (hz : ev L x = some z) (hd : d < C.n) (k : ∀ b, Run C ops V ([(b, .cells z.cells t)] :: H) ((d, .pointer (some ⟨b, 0, none⟩)) :: L) os Q) :
    Run C ops V H L (⟨some d, .box t x, ty, pos, aft, none⟩ :: os) Q :=
  Run.step (p := fun v V' H' => ∃ b, v = .pointer (some ⟨b, 0, none⟩) ∧ V' = V ∧ H' = [(b, .cells z.cells t)] :: H) hd
    (fun a w i => ⟨_, _, V, _, by simp only [execOp, Instr.box, i.1.ev hz, Sem.run_bind, newVar, newRow, newObj]; rfl, ⟨_, rfl, rfl, rfl⟩, i.2.alloc _⟩)
    (fun v V' H' ⟨b, h1, h2, h3⟩ => by subst h1 h2 h3; exact k b)

/-- The parts of a struct, or of an array, each at its place. -/
def partsOf (L : Sl) : List (Nat × Operand) → Option (List (Nat × Value))
  | [] => some []
  | (i, x) :: l => match ev L x, partsOf L l with
    | some v, some vs => some ((i, v) :: vs)
    | _, _ => none
theorem Env.parts {n : Nat} {L : Sl} {a : Act} {D : List Deferred} (h : Env n L a D) : ∀ {l : List (Nat × Operand)} {vs : List (Nat × Value)}, partsOf L l = some vs → l.map (fun x => (x.1, a.eval x.2)) = vs
  | [], vs, hx => by simpa [partsOf] using hx
  | (i, x) :: l, vs, hx => by
    unfold partsOf at hx
    split at hx
    · rename_i v vs' h1 h2
      cases hx
      simp only [List.map_cons, h.ev h1, h.parts h2]
    · cases hx

/-- Where a struct's parts lie. -/
def placesS (P : Program) (t : TypeId) : Option (List (Nat × Nat)) := match P.underlying t with
  | some (.struct fs) => fs.toList.mapM fun f => (sizeT P f.type).map fun z => (f.offset, z)
  | _ => none
/-- An array's, or a slice's, element: how many cells it has. -/
def elemA (P : Program) (t : TypeId) : Option Nat := match P.underlying t with
  | some (.array _ e) => sizeT P e
  | _ => none
def elemS (P : Program) (t : TypeId) : Option (TypeId × Nat) := match P.underlying t with
  | some (.slice e) => (sizeT P e).map fun z => (e, z)
  | _ => none

theorem run_mapM_places {P : Program} {w : World} : ∀ (fs : List Field) (ps : List (Nat × Nat)), fs.mapM (fun f => (sizeT P f.type).map fun z => (f.offset, z)) = some ps →
    ((fs.mapM (fun f : Field => (do pure (f.offset, ← sizeOf f.type) : Sem (Nat × Nat)))).run P w = .ok ps w)
  | [], ps, h => by simp at h; subst h; rfl
  | f :: fs, ps, h => by
    simp only [List.mapM_cons, Option.bind_eq_bind, Option.pure_def] at h
    cases hz : sizeT P f.type with
    | none => rw [hz] at h; cases h
    | some z =>
      rw [hz] at h
      simp only [Option.map_some, Option.bind_some] at h
      cases hr : fs.mapM (fun f => (sizeT P f.type).map fun z => (f.offset, z)) with
      | none => rw [hr] at h; cases h
      | some ps' =>
        rw [hr] at h; cases h
        have ih := run_mapM_places (P := P) (w := w) fs ps' hr
        simp only [List.mapM_cons, Sem.run_bind, run_sizeOf hz, Result.andThen_ok, Sem.run_pure, ih]

/-! parts, laid into a row: over lists, which reduce -/
def setL (l : List Value) (off : Nat) : List Value → List Value
  | [] => l
  | v :: vs => setL (l.set off v) (off + 1) vs
def fillL (place : Nat → Option (Nat × Nat)) (cs : List Value) : List (Nat × Value) → Option (List Value)
  | [] => some cs
  | (i, v) :: rest => match place i with
    | none => none
    | some (off, size) => if v.cells.size ≠ size || off + v.cells.size > cs.length then none else fillL place (setL cs off v.cells.toList) rest

theorem setL_eq : ∀ (vs : List Value) (l : List Value) (off k : Nat), (setL l (off + k) vs).toArray = (vs.zipIdx k).foldl (fun (cs : Array Value) (x : Value × Nat) => cs.setIfInBounds (off + x.2) x.1) l.toArray
  | [], l, off, k => rfl
  | v :: vs, l, off, k => by
    rw [setL, Nat.add_assoc, setL_eq vs _ off (k + 1)]
    simp

theorem fill_of : ∀ (vs : List (Nat × Value)) (place : Nat → Option (Nat × Nat)) (cs r : List Value), fillL place cs vs = some r → Instr.fill place cs.toArray vs = some r.toArray
  | [], place, cs, r, h => by cases h; rfl
  | (i, v) :: rest, place, cs, r, h => by
    unfold fillL at h
    unfold Instr.fill
    cases hp : place i with
    | none => rw [hp] at h; cases h
    | some q =>
      rw [hp] at h
      simp only [List.size_toArray] at h ⊢
      split at h
      · cases h
      · rename_i hn
        rw [if_neg hn]
        have e := setL_eq v.cells.toList cs q.1 0
        have e2 : (v.cells.zipIdx.foldl (fun (cs : Array Value) (x : Value × Nat) => cs.setIfInBounds (q.1 + x.2) x.1) cs.toArray) = (setL cs q.1 v.cells.toList).toArray := by
          rw [Nat.add_zero] at e
          rw [e, ← Array.foldl_toList, Array.toList_zipIdx]
        rw [show (fun (cs : Array Value) (x : Value × Nat) => match x with | (c, j) => cs.setIfInBounds (q.1 + j) c) = (fun (cs : Array Value) (x : Value × Nat) => cs.setIfInBounds (q.1 + x.2) x.1) from rfl, e2]
        exact fill_of rest place _ r h

/-- A row of zeros. -/
def rep (l : List Value) : Nat → List Value
  | 0 => []
  | n + 1 => l ++ rep l n
theorem length_rep (l : List Value) : ∀ n, (rep l n).length = n * l.length
  | 0 => by simp [rep]
  | n + 1 => by rw [rep, List.length_append, length_rep l n, Nat.succ_mul, Nat.add_comm]
theorem rep_get (l : List Value) (hl : 0 < l.length) : ∀ (n j : Nat), j < n * l.length → (rep l n)[j]? = l[j % l.length]?
  | 0, j, h => by omega
  | n + 1, j, h => by
    rw [rep]
    by_cases hj : j < l.length
    · rw [List.getElem?_append_left hj, Nat.mod_eq_of_lt hj]
    · rw [List.getElem?_append_right (by omega), rep_get l hl n (j - l.length) (by rw [Nat.succ_mul] at h; omega), ← Nat.mod_eq_sub_mod (by omega)]
theorem zeros_rep (c : Array Value) (n : Nat) (hc : 0 < c.size) : (Array.range (n * c.size)).map (c[· % c.size]!) = (rep c.toList n).toArray := by
  have hl : 0 < c.toList.length := by simpa using hc
  apply Array.ext
  · simp [length_rep]
  · intro j h1 h2
    simp only [Array.size_map, Array.size_range] at h1
    have h3 := rep_get c.toList hl n j (by simpa using h1)
    have hm : j % c.size < c.size := Nat.mod_lt _ hc
    simp only [Array.getElem_map, Array.getElem_range, List.getElem_toArray]
    rw [List.getElem?_eq_getElem (by simpa using h2)] at h3
    simp only [Array.length_toList] at h3
    rw [Array.getElem?_toList, getElem?_pos c _ hm] at h3
    rw [getElem!_pos c _ hm]
    exact (Option.some.inj h3).symm

theorem Y.buildS {t : TypeId} {l : List (Nat × Operand)} {vs : List (Nat × Value)} {z : Value} {ps : List (Nat × Nat)} {r : List Value} (hz : zeroOf C.P t = some z) (hp : placesS C.P t = some ps) (hl : partsOf L l = some vs)
    (hr' : fillL (ps[·]?) z.cells.toList vs = some r) : Yl C V H L (.build t l.toArray) ty (.agg r.toArray) := (fun V2 a w hle i o ho hty => by
    have e1 := i.1.parts hl
    have hr : Instr.fill (ps.toArray[·]?) z.cells vs = some r.toArray := by have := fill_of vs _ _ r hr'; simpa using this
    unfold placesS at hp
    cases hu : C.P.underlying t with
    | none => rw [hu] at hp; cases hp
    | some u =>
      rw [hu] at hp
      cases u <;> simp only [reduceCtorEq] at hp
      rename_i fs
      have hm := run_mapM_places (P := C.P) (w := w) fs.toList ps hp
      have e2 : (Array.map (fun x : Nat × Operand => (x.1, a.eval x.2)) l.toArray).toList = vs := by simp [e1]
      have hm' : ((fs.mapM (fun f : Field => (do pure (f.offset, ← sizeOf f.type) : Sem (Nat × Nat)))).run C.P w) = .ok ps.toArray w := by
        rw [Array.mapM_eq_mapM_toList]
        simp only [Sem.run_map, hm, Result.andThen_ok]
      simp only [execOp, ho, Instr.build, Sem.run_bind, run_zeroValue hz, Result.andThen_ok, run_underlying hu, hm', e2, hr, Sem.run_pure])

theorem Y.buildA {t : TypeId} {l : List (Nat × Operand)} {vs : List (Nat × Value)} {z : Value} {e : Nat} {r : List Value} (hz : zeroOf C.P t = some z) (hp : elemA C.P t = some e) (hl : partsOf L l = some vs)
    (hr' : fillL (fun i => some (i * e, e)) z.cells.toList vs = some r) : Yl C V H L (.build t l.toArray) ty (.agg r.toArray) := (fun V2 a w hle i o ho hty => by
    have e1 := i.1.parts hl
    have hr : Instr.fill (fun i => some (i * e, e)) z.cells vs = some r.toArray := by have := fill_of vs _ _ r hr'; simpa using this
    unfold elemA at hp
    cases hu : C.P.underlying t with
    | none => rw [hu] at hp; cases hp
    | some u =>
      rw [hu] at hp
      cases u <;> simp only [reduceCtorEq] at hp
      have e2 : (Array.map (fun x : Nat × Operand => (x.1, a.eval x.2)) l.toArray).toList = vs := by simp [e1]
      simp only [execOp, ho, Instr.build, Sem.run_bind, run_zeroValue hz, Result.andThen_ok, run_underlying hu, run_sizeOf hp, e2, hr, Sem.run_pure])

theorem Run.buildSlice {t et z : TypeId} {n : Nat} {l : List (Nat × Operand)} {vs : List (Nat × Value)} {zv : Value} {r : List Value} (ht : elemS C.P t = some (et, z)) (hz : zeroOf C.P et = some zv) (hl : partsOf L l = some vs) (hn : n * z ≤ 16777216)
    (hzs : zv.cells.size = z) (hr' : fillL (fun i => some (i * z, z)) (rep zv.cells.toList n) vs = some r) (hn0 : n * z ≠ 0) (hd : d < C.n)
    (k : ∀ b, Run C ops V ([(b, .cells r.toArray et)] :: H) ((d, .slice (some ⟨b, 0, none⟩) n n) :: L) os Q) :
    Run C ops V H L (⟨some d, .buildSlice t n l.toArray, ty, pos, aft, none⟩ :: os) Q :=
  Run.step (p := fun v V' H' => ∃ b, v = .slice (some ⟨b, 0, none⟩) n n ∧ V' = V ∧ H' = [(b, .cells r.toArray et)] :: H) hd
    (fun a w i => by
      have e1 := i.1.parts hl
      have hr : Instr.fill (fun i => some (i * z, z)) ((Array.range (n * z)).map (zv.cells[· % zv.cells.size]!)) vs = some r.toArray := by
        have h1 := fill_of vs _ _ r hr'
        have h2 := zeros_rep zv.cells n (by rw [hzs]; exact Nat.pos_of_ne_zero fun h => hn0 (by rw [h]; rfl))
        rw [← h1, ← h2, hzs]
      have e2 : (Array.map (fun x : Nat × Operand => (x.1, a.eval x.2)) l.toArray).toList = vs := by simp [e1]
      unfold elemS at ht
      cases hu : C.P.underlying t with
      | none => rw [hu] at ht; cases ht
      | some u =>
        rw [hu] at ht
        cases u <;> simp only [reduceCtorEq] at ht
        rename_i e'
        cases hs : sizeT C.P e' with
        | none => rw [hs] at ht; cases ht
        | some z' =>
          rw [hs] at ht
          simp only [Option.map_some, Option.some.injEq, Prod.mk.injEq] at ht
          obtain ⟨h1, h2⟩ := ht
          subst h1 h2
          refine ⟨_, _, V, _, ?_, ⟨_, rfl, rfl, rfl⟩, i.2.alloc _⟩
          simp only [execOp, Instr.buildSlice, Sem.run_bind, run_underlying hu, Result.andThen_ok, run_sizeOf hs, Sem.run_ite, if_neg hn0, run_zeroValue hz, Sem.run_pure]
          rw [if_neg (by show ¬ n * z' > 2 ^ 24; omega)]
          simp only [Sem.run_pure, e2, hr, newRow, Sem.run_bind]
          rfl)
    (fun v V' H' ⟨b, h1, h2, h3⟩ => by subst h1 h2 h3; exact k b)

/-! ### What is written -/
/-- What may lie in one cell. -/
def one : Value → Bool
  | .agg _ | .tuple _ => false
  | _ => true

def putCells (c : Array Value) (off : Nat) : List Value → Array Value
  | [] => c
  | v :: vs => putCells (c.setIfInBounds off v) (off + 1) vs

theorem size_putCells : ∀ (vs : List Value) (c : Array Value) (off : Nat), (putCells c off vs).size = c.size
  | [], c, off => rfl
  | v :: vs, c, off => by rw [putCells, size_putCells vs]; simp

theorem setCell_block {w : World} {b off : Nat} {c : Array Value} {e : TypeId} {fz : Nat × Nat} (h : w.heap[b]? = some (.cells c e fz)) (v : Value) :
    (w.setCell ⟨b, off, none⟩ v).heap[b]? = some (.cells (c.setIfInBounds off v) e fz) := by
  simp [World.setCell, Array.getElem?_modify, h]

theorem setCell_other {w : World} {b off b' : Nat} (h : b' ≠ b) (v : Value) : (w.setCell ⟨b, off, none⟩ v).heap[b']? = w.heap[b']? := by
  simp only [World.setCell, Array.getElem?_modify]
  rw [if_neg (fun e => h e.symm)]

theorem run_store_one {P : Program} {w : World} {b off : Nat} {c : Array Value} {e : TypeId} {v u : Value} (h : w.heap[b]? = some (.cells c e (0, 0))) (hc : c[off]? = some u) (hv : one v = true) :
    (store ⟨b, off, none⟩ v).run P w = .ok () (w.setCell ⟨b, off, none⟩ v) := by
  have h1 := cell_of h hc
  have h2 : w.frozen? ⟨b, off, none⟩ = false := by simp [World.frozen?, h]
  cases v <;> simp only [one, Bool.false_eq_true] at hv <;> simp [store, Sem.run, h1, h2]

theorem run_storeCells {P : Program} {b off : Nat} {e : TypeId} : ∀ (vs : List Value) (i : Nat) (w : World) (c : Array Value), w.heap[b]? = some (.cells c e (0, 0)) → off + i + vs.length ≤ c.size → vs.all one = true →
    ∃ w', (storeCells ⟨b, off, none⟩ vs i).run P w = .ok () w' ∧ w'.heap[b]? = some (.cells (putCells c (off + i) vs) e (0, 0)) ∧ (∀ b', b' ≠ b → w'.heap[b']? = w.heap[b']?) ∧
      w'.os = w.os ∧ w'.tape = w.tape ∧ w'.output = w.output ∧ w'.heap.size = w.heap.size
  | [], i, w, c, h, _, _ => ⟨w, rfl, h, fun _ _ => rfl, rfl, rfl, rfl, rfl⟩
  | v :: vs, i, w, c, h, hl, hv => by
    simp only [List.all_cons, Bool.and_eq_true] at hv
    simp only [List.length_cons] at hl
    have hlt : off + i < c.size := by omega
    have h1 := run_store_one (P := P) (off := off + i) h (u := c[off + i]) (by simp) hv.1
    have h2 := setCell_block (off := off + i) h v
    obtain ⟨w', k1, k2, k3, k4, k5, k6, k7⟩ := run_storeCells (P := P) (off := off) vs (i + 1) (w.setCell ⟨b, off + i, none⟩ v) _ h2 (by simp; omega) hv.2
    refine ⟨w', ?_, ?_, fun b' hb' => (k3 b' hb').trans (setCell_other hb' v), k4, k5, k6, k7.trans (by simp [World.setCell])⟩
    · simp only [storeCells, Addr.add_plain, Sem.run_bind, h1, Result.andThen_ok]; exact k1
    · exact k2

theorem putCells_list : ∀ (vs : List Value) (l : List Value) (off : Nat), putCells l.toArray off vs = (setL l off vs).toArray
  | [], l, off => rfl
  | v :: vs, l, off => by rw [putCells, setL, ← putCells_list vs]; simp

theorem Run.store {x y : Operand} {b off z i : Nat} {c : List Value} {e t : TypeId} {v : Value} {s : Sg} (hx : ev L x = some (.pointer (some ⟨b, off, none⟩))) (hy : ev L y = some v) (ht : sizeT C.P t = some z) (hi : H[i]? = some [(b, .cells c.toArray e (0, 0))])
    (hs : v.cells.size = z) (hl : off + z ≤ c.length) (h1 : v.cells.toList.all one = true) (hq : [(b, .cells (setL c off v.cells.toList).toArray e (0, 0))] = s) (k : Run C ops V (H.set i s) L os Q) :
    Run C ops V H L (⟨none, .store t x y, ty, pos, aft, none⟩ :: os) Q :=
  Run.act (fun a w i' => by
    subst hq
    have hb := i'.2.own b _ (mem_of_at hi (List.mem_cons_self ..))
    obtain ⟨w', k1, k2, k3, k4, k5, k6, k7⟩ := run_storeCells (P := C.P) (off := off) v.cells.toList 0 w c.toArray hb (by simp [hs]; omega) h1
    rw [putCells_list] at k2
    refine ⟨w', ?_, i'.2.turn hi rfl (fun b' hb' => k3 b' (by simpa using hb')) (fun b' o ho => ?_) k4 k5 k6 (by omega)⟩
    · simp only [execOp, i'.1.ev hx, i'.1.ev hy, Instr.storeAt, Instr.sureAddr, Sem.run_bind, Sem.run_pure, Result.andThen_ok, storeVar, run_sizeOf ht, Sem.run_ite]
      rw [if_neg (by simp [hs]), k1]
      rfl
    · rw [List.mem_singleton] at ho; cases ho; simpa using k2) k

end
end Go.K

/- The rules of the walks, on: structs that are held against one another; strings; slices that are read, cut, appended to; the least and the greatest of two.
Conditions: none; nothing here speaks of a program. -/
import Derived.Test.YtjfacdepgkdoeaaK3
import Derived.Laws.IdiomStrings
namespace Go.K

/-! ### Structs that are held against one another -/
def tagOf (P : Program) (t : TypeId) : Option (Nat × IntKind) := match P.underlying t with
  | some (.int k) => some (0, k)
  | some .bool => some (1, .i64)
  | some .string => some (2, .i64)
  | _ => none
def tagsFrom (P : Program) : Nat → List Field → Option (List (Nat × IntKind))
  | _, [] => some []
  | j, f :: fs => if f.name = "_" ∨ f.offset ≠ j then none else match tagOf P f.type, tagsFrom P (j + 1) fs with
    | some g, some gs => some (g :: gs)
    | _, _ => none
def tags (P : Program) (t : TypeId) : Option (List (Nat × IntKind)) := match P.underlying t with
  | some (.struct fs) => if P.stoodInHeld t || P.eqGuardType P.depth t then none else tagsFrom P 0 fs.toList
  | _ => none
def fitV : Nat × IntKind → Value → Bool
  | (0, k), .int k' _ => k == k'
  | (1, _), .bool _ => true
  | (2, _), .string _ => true
  | _, _ => false
def fits : List (Nat × IntKind) → List Value → Bool
  | [], [] => true
  | g :: gs, v :: vs => fitV g v && fits gs vs
  | _, _ => false
def eqV : Value → Value → Bool
  | .int _ a, .int _ b => a == b
  | .bool a, .bool b => a == b
  | .string a, .string b => a.toList == b.toList
  | _, _ => false
def eqVs : List Value → List Value → Bool
  | x :: xs, y :: ys => eqV x y && eqVs xs ys
  | _, _ => true

theorem run_part {P : Program} {w : World} {t : TypeId} {cs : Array Value} {j : Nat} {v : Value} (h : scal P t = true) (hv : cs[j]? = some v) : (part t cs j).run P w = .ok v w := by
  simp only [part, Sem.run_bind, run_isAgg_scal h, Result.andThen_ok, Bool.false_eq_true, if_false, hv, Sem.run_pure]

theorem run_eqFields {P : Program} {w : World} (d : Nat) (xs ys : Array Value) : ∀ (fs : List Field) (j : Nat) (gs : List (Nat × IntKind)) (us vs : List Value), tagsFrom P j fs = some gs → fits gs us = true → fits gs vs = true →
    (∀ i : Nat, us[i]? = (xs.toList.drop j)[i]?) → (∀ i : Nat, vs[i]? = (ys.toList.drop j)[i]?) → (Op.eqFields (d + 1) xs ys fs).run P w = .ok (eqVs us vs) w
  | [], j, gs, us, vs, hg, hu, hv, _, _ => by
    cases hg
    cases us with
    | nil => cases vs with
      | nil => rfl
      | cons v vs => cases hv
    | cons u us => cases hu
  | f :: fs, j, gs, us, vs, hg, hu, hv, hx, hy => by
    unfold tagsFrom at hg
    split at hg
    · cases hg
    · rename_i hn
      simp only [not_or, Decidable.not_not] at hn
      cases ht : tagOf P f.type with
      | none => rw [ht] at hg; cases hg
      | some g =>
        rw [ht] at hg
        cases hr : tagsFrom P (j + 1) fs with
        | none => rw [hr] at hg; cases hg
        | some gs' =>
          rw [hr] at hg
          cases hg
          cases us with
          | nil => cases hu
          | cons u us => cases vs with
            | nil => cases hv
            | cons v vs =>
              simp only [fits, Bool.and_eq_true] at hu hv
              have hxs : xs[j]? = some u := by have := hx 0; simp at this; exact this.symm
              have hys : ys[j]? = some v := by have := hy 0; simp at this; exact this.symm
              have ih := run_eqFields (P := P) (w := w) d xs ys fs (j + 1) gs' us vs hr hu.2 hv.2 (fun i => by have := hx (i + 1); simpa [Nat.add_assoc, Nat.add_comm 1 i] using this) (fun i => by have := hy (i + 1); simpa [Nat.add_assoc, Nat.add_comm 1 i] using this)
              have hs : scal P f.type = true := by
                unfold tagOf at ht
                unfold scal
                cases hd : P.underlying f.type with
                | none => rw [hd] at ht; cases ht
                | some q => rw [hd] at ht; cases q <;> first | rfl | cases ht
              have he : (Op.equalIn (d + 1) f.type u v).run P w = .ok (eqV u v) w := by
                unfold tagOf at ht
                cases hd : P.underlying f.type with
                | none => rw [hd] at ht; cases ht
                | some q =>
                  rw [hd] at ht
                  cases q <;> simp only [reduceCtorEq, Option.some.injEq] at ht <;> subst ht
                  · cases u <;> simp only [fitV, Bool.false_eq_true, false_and] at hu
                    cases v <;> simp only [fitV, Bool.false_eq_true, false_and] at hv
                    exact run_equalIn_bool' w d _ _ _ hd
                  · cases u <;> simp only [fitV, Bool.false_eq_true, false_and] at hu
                    cases v <;> simp only [fitV, Bool.false_eq_true, false_and] at hv
                    have h1 := beq_iff_eq.1 hu.1
                    have h2 := beq_iff_eq.1 hv.1
                    subst h1 h2
                    exact run_equalIn_int w d _ _ _ _ _ hd
                  · cases u <;> simp only [fitV, Bool.false_eq_true, false_and] at hu
                    cases v <;> simp only [fitV, Bool.false_eq_true, false_and] at hv
                    exact run_equalIn_string w d _ _ _ hd
              simp only [Op.eqFields, hn.1, ne_eq, not_false_eq_true, if_true, hn.2, Sem.run_bind, run_part hs hxs, run_part hs hys, Result.andThen_ok, he, Sem.run_ite, eqVs]
              cases eqV u v
              · simp
              · simpa using ih

section
variable {C : Cx} {V : Vw} {H : Hp} {L : Sl} {Q : Exit → Act → World → Prop} {ops : Array Oper} {os : List Oper}
variable {ty : TypeId} {pos : String} {aft : Array Edge} {d : Nat}

theorem run_eqS {P : Program} {w : World} {t : TypeId} {gs : List (Nat × IntKind)} {xs ys : Array Value} (ht : tags P t = some gs) (hx : fits gs xs.toList = true) (hy : fits gs ys.toList = true) (op : BinOp) (x y : Operand) :
    (Op.equalIn 10000 t (.agg xs) (.agg ys)).run P w = .ok (eqVs xs.toList ys.toList) w ∧ (eqGuard op t x y (.agg xs) (.agg ys)).run P w = .ok () w := by
  unfold tags at ht
  cases hu : P.underlying t with
  | none => rw [hu] at ht; cases ht
  | some u =>
    rw [hu] at ht
    cases u <;> simp only [reduceCtorEq] at ht
    rename_i fs
    split at ht
    · cases ht
    · rename_i hb
      simp only [Bool.or_eq_true, not_or, Bool.not_eq_true] at hb
      have hfs : P.fieldsOf t = fs := by simp [Program.fieldsOf, hu]
      exact ⟨by rw [run_equalIn_struct w 9999 t xs ys (by rw [hfs]; exact hu) hb.1, hfs]; exact run_eqFields 9998 xs ys fs.toList 0 gs _ _ ht hx hy (by simp) (by simp), run_eqGuard_agg w op t x y xs ys hb.2⟩

theorem Y.eqS {x y : Operand} {t t' : TypeId} {gs : List (Nat × IntKind)} {xs ys : Array Value} (hx : ev L x = some (.agg xs)) (hy : ev L y = some (.agg ys)) (ht : tags C.P t = some gs) (h1 : fits gs xs.toList = true) (h2 : fits gs ys.toList = true) :
    Yl C V H L (.binOp .eql t x y t') ty (.bool (eqVs xs.toList ys.toList)) := (fun V2 a w hle i o ho hty => by
  have h := run_eqS (w := w) ht h1 h2 .eql x y
  simp only [execOp, ho, i.1.ev hx, i.1.ev hy, Sem.run_bind, h.2, Result.andThen_ok, run_eql_struct, h.1, Sem.run_pure])
theorem Y.neS {x y : Operand} {t t' : TypeId} {gs : List (Nat × IntKind)} {xs ys : Array Value} (hx : ev L x = some (.agg xs)) (hy : ev L y = some (.agg ys)) (ht : tags C.P t = some gs) (h1 : fits gs xs.toList = true) (h2 : fits gs ys.toList = true) :
    Yl C V H L (.binOp .neq t x y t') ty (.bool (!eqVs xs.toList ys.toList)) := (fun V2 a w hle i o ho hty => by
  have h := run_eqS (w := w) ht h1 h2 .neq x y
  simp only [execOp, ho, i.1.ev hx, i.1.ev hy, Sem.run_bind, h.2, Result.andThen_ok, run_neq_struct, h.1, Sem.run_pure])

theorem Y.eqB {x y : Operand} {t t' : TypeId} {a b : Bool} (hx : ev L x = some (.bool a)) (hy : ev L y = some (.bool b)) (ht : tagOf C.P t = some (1, .i64)) :
    Yl C V H L (.binOp .eql t x y t') ty (.bool (a == b)) := (fun V2 ac w hle i o ho hty => by
  have hu : C.P.underlying t = some .bool := by
    unfold tagOf at ht
    cases hd : C.P.underlying t with
    | none => rw [hd] at ht; cases ht
    | some q => rw [hd] at ht; cases q <;> first | rfl | (simp at ht)
  have hg : (eqGuard .eql t x y (.bool a) (.bool b)).run C.P w = .ok () w := rfl
  simp only [execOp, ho, i.1.ev hx, i.1.ev hy, Sem.run_bind, hg, Result.andThen_ok, run_eql_bool _ t a b hu, Sem.run_pure])
theorem Y.neB {x y : Operand} {t t' : TypeId} {a b : Bool} (hx : ev L x = some (.bool a)) (hy : ev L y = some (.bool b)) (ht : tagOf C.P t = some (1, .i64)) :
    Yl C V H L (.binOp .neq t x y t') ty (.bool (a != b)) := (fun V2 ac w hle i o ho hty => by
  have hu : C.P.underlying t = some .bool := by
    unfold tagOf at ht
    cases hd : C.P.underlying t with
    | none => rw [hd] at ht; cases ht
    | some q => rw [hd] at ht; cases q <;> first | rfl | (simp at ht)
  have hg : (eqGuard .neq t x y (.bool a) (.bool b)).run C.P w = .ok () w := rfl
  simp only [execOp, ho, i.1.ev hx, i.1.ev hy, Sem.run_bind, hg, Result.andThen_ok]
  simp only [binOp, Sem.run_bind, Op.equal, Op.maxDepth, run_equalIn_bool w 9999 t a b hu, Result.andThen_ok, Sem.run_pure]
  cases a <;> cases b <;> rfl)

/-! ### Strings -/
theorem run_eqGuard_string {P : Program} {w : World} (op : BinOp) (t : TypeId) (x y : Operand) (a b : ByteArray) : (eqGuard op t x y (.string a) (.string b)).run P w = .ok () w := by
  unfold eqGuard; cases op <;> rfl
theorem Y.eqStr {x y : Operand} {t t' : TypeId} {a b : ByteArray} (hx : ev L x = some (.string a)) (hy : ev L y = some (.string b)) : Yl C V H L (.binOp .eql t x y t') ty (.bool (a.toList == b.toList)) := (fun V2 ac w hle i o ho hty => by
  simp only [execOp, ho, i.1.ev hx, i.1.ev hy, Sem.run_bind, run_eqGuard_string, Result.andThen_ok, binOp, Op.stringOp, Sem.run_pure])
theorem Y.neStr {x y : Operand} {t t' : TypeId} {a b : ByteArray} (hx : ev L x = some (.string a)) (hy : ev L y = some (.string b)) : Yl C V H L (.binOp .neq t x y t') ty (.bool (!(a.toList == b.toList))) := (fun V2 ac w hle i o ho hty => by
  simp only [execOp, ho, i.1.ev hx, i.1.ev hy, Sem.run_bind, run_eqGuard_string, Result.andThen_ok, binOp, Op.stringOp, Sem.run_pure])
theorem Y.catStr {x y : Operand} {t t' : TypeId} {a b : ByteArray} (hx : ev L x = some (.string a)) (hy : ev L y = some (.string b)) (hs : a.size + b.size ≤ 9223372036854775807) : Yl C V H L (.binOp .add t x y t') ty (.string (a ++ b)) := (fun V2 ac w hle i o ho hty => by
  have h : ¬ ((a.size + b.size : Nat) : Int) > IntKind.i64.max := by have : IntKind.i64.max = 9223372036854775807 := rfl; omega
  simp only [execOp, ho, i.1.ev hx, i.1.ev hy, Sem.run_bind, run_eqGuard_string, Result.andThen_ok, binOp, Op.stringOp, if_neg h, Sem.run_pure])

def strT (P : Program) (t : TypeId) : Bool := match P.underlying t with
  | some .string => true
  | _ => false
theorem under_str {P : Program} {t : TypeId} (h : strT P t = true) : P.underlying t = some .string := by
  unfold strT at h
  cases hd : P.underlying t with
  | none => rw [hd] at h; cases h
  | some q => rw [hd] at h; cases q <;> first | rfl | cases h
theorem under_elemS {P : Program} {t e : TypeId} {z : Nat} (h : elemS P t = some (e, z)) : P.underlying t = some (.slice e) ∧ sizeT P e = some z := by
  unfold elemS at h
  cases hd : P.underlying t with
  | none => rw [hd] at h; cases h
  | some q =>
    rw [hd] at h
    cases q <;> simp only [reduceCtorEq] at h
    rename_i e'
    cases hs : sizeT P e' with
    | none => rw [hs] at h; cases h
    | some z' => rw [hs] at h; simp only [Option.map_some, Option.some.injEq, Prod.mk.injEq] at h; obtain ⟨rfl, rfl⟩ := h; exact ⟨rfl, hs⟩

theorem Y.lenStr {x : Operand} {t : TypeId} {s : ByteArray} (hx : ev L x = some (.string s)) (ht : strT C.P t = true) : Yl C V H L (.call { callee := .builtin .len, args := #[x], argTypes := #[t] }) ty (.int .i64 s.size) := (fun V2 a w hle i o ho hty => by
  simp [execOp, ho, resolve, invoke, builtin, Builtin.len_, i.1.ev hx, run_underlying (under_str ht), goInt])
theorem Y.lenSl {x : Operand} {t e : TypeId} {z : Nat} {p : Option Addr} {n c : Nat} (hx : ev L x = some (.slice p n c)) (ht : elemS C.P t = some (e, z)) : Yl C V H L (.call { callee := .builtin .len, args := #[x], argTypes := #[t] }) ty (.int .i64 n) := (fun V2 a w hle i o ho hty => by
  simp [execOp, ho, resolve, invoke, builtin, Builtin.len_, i.1.ev hx, run_underlying (under_elemS ht).1, goInt])
theorem Y.idxStr {x y : Operand} {t : TypeId} {s : ByteArray} {k : IntKind} {n : Int} (hx : ev L x = some (.string s)) (hy : ev L y = some (.int k n)) (ht : strT C.P t = true) (h0 : 0 ≤ n) (h1 : n.toNat < s.size) :
    Yl C V H L (.index t x y) ty (.int .u8 (s.toList.getD n.toNat 0).toNat) := (fun V2 a w hle i o ho hty => by
  have hg : s[n.toNat]? = some (s.toList.getD n.toNat 0) := by
    have : s.toList = s.data.toList := by rw [ByteArray.toList_eq]
    rw [this]
    have h2 : n.toNat < s.data.size := h1
    simp only [getElem?_pos s n.toNat h1, List.getD_eq_getElem?_getD, Array.getElem?_toList]
    simp only [getElem?_pos s.data n.toNat h2]
    rfl
  simp [execOp, ho, Instr.index, i.1.ev hx, i.1.ev hy, asIntOf, run_underlying (under_str ht), h0, hg])

/-! ### The least and the greatest of two -/
theorem Y.min2 {x y : Operand} {t : TypeId} {ts : Array TypeId} {k : IntKind} {m n : Int} (hx : ev L x = some (.int k m)) (hy : ev L y = some (.int k n)) : Yl C V H L (.call { callee := .builtin .min, args := #[x, y], argTypes := ts }) t (.int k (min m n)) := (fun V2 a w hle i o ho hty => by
  have e : (if n < m then n else m) = min m n := by omega
  simp [execOp, ho, resolve, invoke, builtin, Builtin.min_, Builtin.min2, i.1.ev hx, i.1.ev hy, e])
theorem Y.max2 {x y : Operand} {t : TypeId} {ts : Array TypeId} {k : IntKind} {m n : Int} (hx : ev L x = some (.int k m)) (hy : ev L y = some (.int k n)) : Yl C V H L (.call { callee := .builtin .max, args := #[x, y], argTypes := ts }) t (.int k (max m n)) := (fun V2 a w hle i o ho hty => by
  have e : (if n > m then n else m) = max m n := by omega
  simp [execOp, ho, resolve, invoke, builtin, Builtin.max_, Builtin.max2, i.1.ev hx, i.1.ev hy, e])

/-! ### Parts of what is held by value -/
def fieldS (P : Program) (t : TypeId) (f : Nat) : Option Nat := match P.underlying t with
  | some (.struct fs) => match fs[f]? with
    | some g => if scal P g.type then some g.offset else none
    | none => none
  | _ => none
theorem Y.field {x : Operand} {t : TypeId} {f o : Nat} {cs : Array Value} {v : Value} (hx : ev L x = some (.agg cs)) (hf : fieldS C.P t f = some o) (hv : cs[o]? = some v) : Yl C V H L (.field t x f) ty v := (fun V2 a w hle i op ho hty => by
  unfold fieldS at hf
  cases hu : C.P.underlying t with
  | none => rw [hu] at hf; cases hf
  | some u =>
    rw [hu] at hf
    cases u <;> simp only [reduceCtorEq] at hf
    rename_i fs
    cases hg : fs[f]? with
    | none => rw [hg] at hf; cases hf
    | some g =>
      simp only [hg] at hf
      split at hf
      · rename_i hs
        cases hf
        have hp := run_part (P := C.P) (w := w) (cs := cs) hs hv
        simp [execOp, ho, i.1.ev hx, Instr.field, run_underlying hu, hg, asAgg, hp]
      · cases hf)

/-! ### Slices that are read -/
/-- v is a slice of n elements of k cells each, which read xs. -/
def Rd (V : Vw) (H : Hp) (k : Nat) (v : Value) (n : Nat) (xs : List Value) : Prop :=
  xs.length = n * k ∧ ∃ p c, v = .slice p n c ∧ n ≤ c ∧ (n = 0 ∨ ∃ b off cs e fz, p = some ⟨b, off, none⟩ ∧ Kn V H b (.cells cs e fz) ∧ ∀ j, j < n * k → cs[off + j]? = xs[j]?)

theorem Rd.le {V V' : Vw} {H : Hp} {k : Nat} {v : Value} {n : Nat} {xs : List Value} (h : Rd V H k v n xs) (hl : V.le V') : Rd V' H k v n xs := by
  obtain ⟨h1, p, c, h2, h3, h4⟩ := h
  refine ⟨h1, p, c, h2, h3, h4.imp id ?_⟩
  rintro ⟨b, off, cs, e, fz, a1, a2, a3⟩
  exact ⟨b, off, cs, e, fz, a1, a2.le hl, a3⟩

theorem Rd.slice {V : Vw} {H : Hp} {k : Nat} {p : Option Addr} {n c : Nat} {xs : List Value} (h : Rd V H k (.slice p n c) n xs) (l m : Nat) (hl : l ≤ m) (hm : m ≤ n) :
    Rd V H k (.slice (if c = l then p else p.map (·.add (l * k))) (m - l) (c - l)) (m - l) ((xs.drop (l * k)).take ((m - l) * k)) := by
  obtain ⟨h1, p', c', h2, h3, h4⟩ := h
  cases h2
  have hlen : l * k + (m - l) * k ≤ n * k := by rw [← Nat.add_mul]; exact Nat.mul_le_mul_right _ (by omega)
  refine ⟨by rw [List.length_take, List.length_drop, h1]; omega, _, _, rfl, by omega, ?_⟩
  rcases h4 with h4 | ⟨b, off, cs, e, fz, a1, a2, a3⟩
  · exact .inl (by omega)
  · by_cases hz : m - l = 0
    · exact .inl hz
    · refine .inr ⟨b, off + l * k, cs, e, fz, ?_, a2, fun j hj => ?_⟩
      · rw [if_neg (by omega), a1]; simp [Addr.add_plain]
      · rw [List.getElem?_take, if_pos hj, List.getElem?_drop, Nat.add_assoc]
        exact a3 _ (by omega)

theorem Y.slice {x : Operand} {lo hi : Option Operand} {t e : TypeId} {k : Nat} {p : Option Addr} {n c l m : Nat} (hx : ev L x = some (.slice p n c)) (ht : elemS C.P t = some (e, k))
    (hlo : (match lo with | none => some (0 : Int) | some y => match ev L y with | some (.int _ q) => some q | _ => none) = some (l : Int))
    (hhi : (match hi with | none => some (n : Int) | some y => match ev L y with | some (.int _ q) => some q | _ => none) = some (m : Int)) (h1 : l ≤ m) (h2 : m ≤ c) :
    Yl C V H L (.slice t x lo hi none) ty (.slice (if c = l then p else p.map (·.add (l * k))) (m - l) (c - l)) := (fun V2 a w hle i o ho hty => by
  have hu := (under_elemS ht).1
  have hs := run_sizeOf (w := w) (under_elemS ht).2
  have hb : ∀ (q : Operand) (kk : IntKind) (z y : Nat) (cd : BoundsCode), ev L q = some (.int kk (z : Int)) → z ≤ y → (Instr.sliceBound (a.eval q) y cd).run C.P w = .ok z w := fun q kk z y cd hq hz => by
    simp only [Instr.sliceBound, i.1.ev hq, asIntOf, Sem.run_bind, Sem.run_pure, Result.andThen_ok, Sem.run_ite]
    rw [if_pos ⟨by omega, by omega⟩]
    simp
  have hbs : (Instr.sliceBounds true n c (lo.map a.eval) (hi.map a.eval) none).run C.P w = .ok (l, m, c) w := by
    have e1 : (hi = none ∧ n = m) ∨ ∃ y kk, hi = some y ∧ ev L y = some (.int kk (m : Int)) := by
      cases hi with
      | none => simp only [Option.some.injEq] at hhi; exact .inl ⟨rfl, by omega⟩
      | some y =>
        simp only at hhi
        split at hhi
        · rename_i kk q hq; cases hhi; exact .inr ⟨y, kk, rfl, hq⟩
        · cases hhi
    have e2 : (lo = none ∧ l = 0) ∨ ∃ y kk, lo = some y ∧ ev L y = some (.int kk (l : Int)) := by
      cases lo with
      | none => simp only [Option.some.injEq] at hlo; exact .inl ⟨rfl, by omega⟩
      | some y =>
        simp only at hlo
        split at hlo
        · rename_i kk q hq; cases hlo; exact .inr ⟨y, kk, rfl, hq⟩
        · cases hlo
    clear hlo hhi
    rcases e1 with ⟨rfl, rfl⟩ | ⟨y, kk, rfl, hq⟩ <;> rcases e2 with ⟨rfl, rfl⟩ | ⟨z, kz, rfl, hz⟩
    · simp [Instr.sliceBounds]
    · simp [Instr.sliceBounds, hb z kz l n .sliceB hz h1]
    · simp [Instr.sliceBounds, hb y kk m c .sliceAcap hq h2]
    · simp [Instr.sliceBounds, hb y kk m c .sliceAcap hq h2, hb z kz l m .sliceB hz h1]
  simp only [execOp, ho, i.1.ev hx, Instr.sliceAt, Sem.run_bind, run_underlying hu, Result.andThen_ok, Instr.slice, hbs, hs, Option.map_none, Sem.run_pure])

theorem Y.idxAddr {x y : Operand} {t e : TypeId} {z : Nat} {b off n c : Nat} {k : IntKind} {j : Int} (hx : ev L x = some (.slice (some ⟨b, off, none⟩) n c)) (hy : ev L y = some (.int k j)) (ht : elemS C.P t = some (e, z)) (h0 : 0 ≤ j) (h1 : j.toNat < n) :
    Yl C V H L (.indexAddr t x y) ty (.pointer (some ⟨b, off + j.toNat * z, none⟩)) := (fun V2 a w hle i o ho hty => by
  have hu := (under_elemS ht).1
  have hs := run_sizeOf (w := w) (under_elemS ht).2
  have hj : 0 ≤ j ∧ j < (n : Int) := ⟨h0, by omega⟩
  simp [execOp, ho, i.1.ev hx, i.1.ev hy, Instr.indexAt, asIntOf, run_underlying hu, hs, hj, Addr.add_plain])

/-- bytes, as a row of cells. -/
def byteV (b : UInt8) : Value := .int .u8 b.toNat

theorem Y.bytesStr {x : Operand} {s t e : TypeId} {v : Value} {bs : List UInt8} (hx : ev L x = some v) (hs : elemS C.P s = some (e, 1)) (he : tagOf C.P e = some (0, .u8)) (ht : strT C.P t = true) (hr : Rd V H 1 v bs.length (bs.map byteV)) :
    Yl C V H L (.convert s t x) ty (.string ⟨bs.toArray⟩) := (fun V2 a w hle i o ho hty => by
  have hu := (under_elemS hs).1
  have hut := under_str ht
  have hue : C.P.underlying e = some (.int .u8) := by
    unfold tagOf at he
    cases hd : C.P.underlying e with
    | none => rw [hd] at he; cases he
    | some q => rw [hd] at he; cases q <;> simp at he <;> rw [he]
  obtain ⟨h1, p, c, h2, h3, h4⟩ := hr
  subst h2
  rcases h4 with h4 | ⟨b, off, cs, e', fz, a1, a2, a3⟩
  · have hnil : bs = [] := List.eq_nil_of_length_eq_zero h4
    subst hnil
    cases p with
    | none => simp [execOp, ho, i.1.ev hx, run_convert_bytes_string w s t e none _ _ hu hue hut, Conv.bytesToString]; rfl
    | some p =>
      have := run_convert_bytes_back (P := C.P) w s t e p c [] hu hue hut (fun j hj => by simp at hj)
      simp only [execOp, ho, i.1.ev hx, Sem.run_bind]
      rw [this]; rfl
  · subst a1
    have hk := (a2.le hle).st i.2
    have := run_convert_bytes_back (P := C.P) w s t e ⟨b, off, none⟩ c bs hu hue hut (fun j hj => by
      rw [Addr.add_plain]
      have h5 := a3 j (by omega)
      rw [List.getElem?_map, List.getElem?_eq_getElem hj] at h5
      exact cell_of hk h5)
    simp only [execOp, ho, i.1.ev hx, Sem.run_bind, this]; rfl)

/-! ### Slices of one's own, that grow -/
/-- v is a slice of n elements, of one's own: s is its block. -/
def Ow (e : TypeId) (k : Nat) (v : Value) (n : Nat) (xs : List Value) (s : Sg) : Prop :=
  xs.length = n * k ∧ ((v = .slice none 0 0 ∧ n = 0 ∧ s = []) ∨ ∃ b cap cur, v = .slice (some ⟨b, 0, none⟩) n cap ∧ s = [(b, .cells cur e (0, 0))] ∧ n ≤ cap ∧ cap ≤ maxLen ∧ cur.size = cap * k ∧ ∀ j, j < n * k → cur[j]? = xs[j]?)

theorem Ow.nil (e : TypeId) (k : Nat) : Ow e k (.slice none 0 0) 0 [] [] := ⟨by simp, .inl ⟨rfl, rfl, rfl⟩⟩
theorem Ow.lit {e : TypeId} {k b n : Nat} {cur : Array Value} (h : cur.size = n * k) (hn : n ≤ maxLen) : Ow e k (.slice (some ⟨b, 0, none⟩) n n) n cur.toList [(b, .cells cur e (0, 0))] :=
  ⟨by simpa using h, .inr ⟨b, n, cur, rfl, rfl, Nat.le_refl _, hn, h, fun j _ => by simp⟩⟩

/-- What is of one's own may be read. -/
theorem Ow.rd {e : TypeId} {k : Nat} {v : Value} {n : Nat} {xs : List Value} {s : Sg} (h : Ow e k v n xs s) (i : Nat) (hi : H[i]? = some s) : Rd V H k v n xs := by
  obtain ⟨h1, h2⟩ := h
  refine ⟨h1, ?_⟩
  rcases h2 with ⟨rfl, rfl, rfl⟩ | ⟨b, cap, cur, rfl, rfl, h3, h4, h5, h6⟩
  · exact ⟨none, 0, rfl, Nat.le_refl _, .inl rfl⟩
  · exact ⟨_, cap, rfl, h3, .inr ⟨b, 0, cur, e, (0, 0), rfl, Kn.at i hi, fun j hj => by rw [Nat.zero_add]; exact h6 j hj⟩⟩

/-- And it may be given up. -/
theorem Ow.leak {e : TypeId} {k : Nat} {v : Value} {n : Nat} {xs : List Value} {s : Sg} (h : Ow e k v n xs s) (V : Vw) (H : Hp) : Rd (fun c => match s.lookup c with | some o => some o | none => V c) H k v n xs := by
  obtain ⟨h1, h2⟩ := h
  refine ⟨h1, ?_⟩
  rcases h2 with ⟨rfl, rfl, rfl⟩ | ⟨b, cap, cur, rfl, rfl, h3, h4, h5, h6⟩
  · exact ⟨none, 0, rfl, Nat.le_refl _, .inl rfl⟩
  · exact ⟨_, cap, rfl, h3, .inr ⟨b, 0, cur, e, (0, 0), rfl, .inl (by simp [List.lookup]), fun j hj => by rw [Nat.zero_add]; exact h6 j hj⟩⟩

/-- What an append takes its new elements from: a slice that is read, a string. -/
def Src (P : Program) (V : Vw) (H : Hp) (t : TypeId) (k : Nat) (y : Value) (m : Nat) (ys : List Value) : Prop :=
  ys.length = m * k ∧ ((∃ e, P.underlying t = some (.slice e)) ∧ Rd V H k y m ys ∨ P.underlying t = some .string ∧ k = 1 ∧ ∃ s : ByteArray, y = .string s ∧ m = s.size ∧ ys = s.toList.map byteV)

theorem Src.of_rd {P : Program} {t e : TypeId} {z k : Nat} {y : Value} {m : Nat} {ys : List Value} (ht : elemS P t = some (e, z)) (h : Rd V H k y m ys) : Src P V H t k y m ys := ⟨h.1, .inl ⟨⟨e, (under_elemS ht).1⟩, h⟩⟩
theorem Src.of_str {P : Program} {t : TypeId} (s : ByteArray) (ht : strT P t = true) : Src P V H t 1 (.string s) s.size (s.toList.map byteV) :=
  ⟨by simp [ByteArray.toList_eq], .inr ⟨under_str ht, rfl, s, rfl, rfl, rfl⟩⟩

theorem Src.run {P : Program} {B : World} {S : List Nat} {U : Vw} {t : TypeId} {k : Nat} {y : Value} {m : Nat} {ys : List Value} {w : World} (h : Src P V H t k y m ys) (st : St B S U V H w) :
    (Builtin.lenOf y).run P w = .ok m w ∧ (Builtin.firstCells k m y).run P w = .ok ys.toArray w ∧ (∃ u, P.underlying t = some u ∧ ((∃ q, u = .slice q) ∨ u = .string)) := by
  obtain ⟨h1, h2⟩ := h
  rcases h2 with ⟨⟨e, he⟩, hr⟩ | ⟨ht, hk, s, rfl, rfl, rfl⟩
  · obtain ⟨_, p, c, rfl, h3, h4⟩ := hr
    refine ⟨by simp [Builtin.lenOf], ?_, _, he, .inl ⟨_, rfl⟩⟩
    rcases h4 with h4 | ⟨b, off, cs, e', fz, rfl, a2, a3⟩
    · subst h4
      have : ys = [] := List.eq_nil_of_length_eq_zero (by simpa using h1)
      subst this
      cases p <;> simp [Builtin.firstCells, loadCells, loadCellsFrom]
    · exact run_firstCells_some w k m _ _ _ ys h1 (fun j v hj => by
        rw [Addr.add_plain]
        have hlt : j < m * k := by rw [← h1]; exact (List.getElem?_eq_some_iff.1 hj).1
        exact cell_of (a2.st st) ((a3 j hlt).trans hj))
  · subst hk
    refine ⟨by simp [Builtin.lenOf], ?_, _, ht, .inr rfl⟩
    simp only [Builtin.firstCells, Sem.run_pure]
    congr 1
    apply Array.ext'
    simp [ByteArray.toList_eq, byteV]

end
end Go.K

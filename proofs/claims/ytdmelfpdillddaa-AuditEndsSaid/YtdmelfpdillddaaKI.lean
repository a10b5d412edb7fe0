/- Arrays of numbers that are held against one another.
Conditions: none; nothing here speaks of a program. -/
import Derived.Test.YtdmelfpdillddaaKH
import Derived.Test.YtdmelfpdillddaaKC
import Derived.ChangeKeysEq
set_option linter.unusedSimpArgs false
set_option linter.unusedVariables false
set_option linter.unusedSectionVars false
namespace Go.K
def arrE (P : Program) (t : TypeId) : Option (List (Nat × IntKind)) := match P.underlying t with
  | some (.array n e) => if P.eqGuardType P.depth t then none else match P.underlying e, P.info? e with
    | some (.int k), some _ => if P.cellsOf e = 1 then some (List.replicate n (0, k)) else none
    | _, _ => none
  | _ => none
theorem run_eqItemsN {P : Program} {w : World} {e : TypeId} {k : IntKind} (hu : P.underlying e = some (.int k)) (d : Nat) (xs ys : Array Value) : ∀ (m j : Nat) (us vs : List Value), fits (List.replicate m (0, k)) us = true → fits (List.replicate m (0, k)) vs = true →
    (∀ i : Nat, us[i]? = (xs.toList.drop j)[i]?) → (∀ i : Nat, vs[i]? = (ys.toList.drop j)[i]?) → (Op.eqItems (d + 1) e 1 xs ys (List.range' j m)).run P w = .ok (eqVs us vs) w
  | 0, j, us, vs, hf, hg, _, _ => by
    cases us with
    | nil => cases vs with
      | nil => rfl
      | cons v vs => cases hg
    | cons u us => cases hf
  | m + 1, j, us, vs, hf, hg, hx, hy => by
    rw [List.replicate_succ] at hf hg
    cases us with
    | nil => cases hf
    | cons u us => cases vs with
      | nil => cases hg
      | cons v vs =>
        simp only [fits, Bool.and_eq_true] at hf hg
        have hxs : xs[j]? = some u := by have := hx 0; simp at this; exact this.symm
        have hys : ys[j]? = some v := by have := hy 0; simp at this; exact this.symm
        have ih := run_eqItemsN (w := w) hu d xs ys m (j + 1) us vs hf.2 hg.2 (fun i => by have := hx (i + 1); simpa [Nat.add_assoc, Nat.add_comm 1 i] using this) (fun i => by have := hy (i + 1); simpa [Nat.add_assoc, Nat.add_comm 1 i] using this)
        have hs : scal P e = true := by unfold scal; rw [hu]
        have he : (Op.equalIn (d + 1) e u v).run P w = .ok (eqV u v) w := by
          cases u <;> simp only [fitV, Bool.false_eq_true, false_and] at hf
          cases v <;> simp only [fitV, Bool.false_eq_true, false_and] at hg
          have h1 := beq_iff_eq.1 hf.1
          have h2 := beq_iff_eq.1 hg.1
          subst h1 h2
          exact run_equalIn_int w d _ _ _ _ _ hu
        simp only [List.range'_succ, Op.eqItems, Nat.mul_one, Sem.run_bind, run_part hs hxs, run_part hs hys, Result.andThen_ok, he, eqVs]
        cases eqV u v
        · simp
        · simpa using ih
section
variable {C : Cx} {V : Vw} {H : Hp} {L : Sl} {ty : TypeId}
theorem run_eqAr {P : Program} {w : World} {t : TypeId} {gs : List (Nat × IntKind)} {xs ys : Array Value} (ht : arrE P t = some gs) (hx : fits gs xs.toList = true) (hy : fits gs ys.toList = true) (op : BinOp) (x y : Operand) :
    (Op.equalIn 10000 t (.agg xs) (.agg ys)).run P w = .ok (eqVs xs.toList ys.toList) w ∧ (eqGuard op t x y (.agg xs) (.agg ys)).run P w = .ok () w := by
  unfold arrE at ht
  cases hu : P.underlying t with
  | none => rw [hu] at ht; cases ht
  | some u =>
    rw [hu] at ht
    cases u <;> simp only [reduceCtorEq] at ht
    rename_i n e
    split at ht
    · cases ht
    · rename_i hb
      cases hue : P.underlying e with
      | none => rw [hue] at ht; cases ht
      | some ue =>
        cases hie : P.info? e with
        | none => rw [hue, hie] at ht; simp at ht
        | some ie =>
          rw [hue, hie] at ht
          cases ue <;> simp only [reduceCtorEq] at ht
          rename_i k
          split at ht
          · rename_i hc
            simp only [Option.some.injEq] at ht
            subst ht
            refine ⟨?_, run_eqGuard_agg w op t x y xs ys (by simpa using hb)⟩
            rw [run_equalIn_array w 9999 xs ys hu hie, hc, List.range_eq_range']
            exact run_eqItemsN hue 9998 xs ys n 0 _ _ hx hy (by simp) (by simp)
          · cases ht
theorem Y.eqAr {x y : Operand} {t t' : TypeId} {gs : List (Nat × IntKind)} {xs ys : Array Value} (hx : ev L x = some (.agg xs)) (hy : ev L y = some (.agg ys)) (ht : arrE C.P t = some gs) (h1 : fits gs xs.toList = true) (h2 : fits gs ys.toList = true) :
    Yl C V H L (.binOp .eql t x y t') ty (.bool (eqVs xs.toList ys.toList)) := (fun V2 a w hle i o ho hty => by
  have h := run_eqAr (w := w) ht h1 h2 .eql x y
  simp only [execOp, ho, i.1.ev hx, i.1.ev hy, Sem.run_bind, h.2, Result.andThen_ok, run_eql_struct, h.1, Sem.run_pure])
theorem Y.neAr {x y : Operand} {t t' : TypeId} {gs : List (Nat × IntKind)} {xs ys : Array Value} (hx : ev L x = some (.agg xs)) (hy : ev L y = some (.agg ys)) (ht : arrE C.P t = some gs) (h1 : fits gs xs.toList = true) (h2 : fits gs ys.toList = true) :
    Yl C V H L (.binOp .neq t x y t') ty (.bool (!eqVs xs.toList ys.toList)) := (fun V2 a w hle i o ho hty => by
  have h := run_eqAr (w := w) ht h1 h2 .neq x y
  simp only [execOp, ho, i.1.ev hx, i.1.ev hy, Sem.run_bind, h.2, Result.andThen_ok, run_neq_struct, h.1, Sem.run_pure])
theorem Y.neAr_self {x y : Operand} {t t' : TypeId} {gs : List (Nat × IntKind)} {xs : Array Value} (hx : ev L x = some (.agg xs)) (hy : ev L y = some (.agg xs)) (ht : arrE C.P t = some gs) (h1 : fits gs xs.toList = true) : Yl C V H L (.binOp .neq t x y t') ty (.bool false) := by
  have := Y.neAr (C := C) (V := V) (H := H) (ty := ty) (t' := t') hx hy ht h1 h1
  rw [eqVs_self h1] at this; exact this
end
end Go.K

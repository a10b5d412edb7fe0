/- More rules of the walks: an array's element by value; equal strings; a row's argument is a plain value.
Conditions: none; nothing here speaks of a program. -/
import Derived.Test.YtjfacdepgkdoeaaK9
namespace Go.K
section
variable {C : Cx} {V : Vw} {H : Hp} {L : Sl} {ty : TypeId}

/-- An array of scalars of one cell each: its length. -/
def arrS (P : Program) (t : TypeId) : Option Nat := match P.underlying t with
  | some (.array n e) => if scal P e && (sizeT P e == some 1) then some n else none
  | _ => none
theorem Y.idxAgg {x y : Operand} {t : TypeId} {n : Nat} {cs : Array Value} {k : IntKind} {j : Int} {v : Value} (hx : ev L x = some (.agg cs)) (hy : ev L y = some (.int k j)) (ht : arrS C.P t = some n) (h0 : 0 ≤ j) (h1 : j.toNat < n) (hv : cs[j.toNat]? = some v) :
    Yl C V H L (.index t x y) ty v := (fun V2 a w hle i o ho hty => by
  unfold arrS at ht
  cases hu : C.P.underlying t with
  | none => rw [hu] at ht; cases ht
  | some u =>
    rw [hu] at ht
    cases u <;> simp only [reduceCtorEq] at ht
    rename_i n' e
    split at ht
    · rename_i hse
      cases ht
      rw [Bool.and_eq_true, beq_iff_eq] at hse
      have hs' := run_sizeOf (w := w) hse.2
      have hp := run_part (P := C.P) (w := w) (cs := cs) hse.1 hv
      have hj : 0 ≤ j ∧ j < (n : Int) := ⟨h0, by omega⟩
      simp [execOp, ho, i.1.ev hx, i.1.ev hy, Instr.index, asIntOf, run_underlying hu, hs', hj, hp]
    · cases ht)
theorem Y.eqStr_t {x y : Operand} {t t' : TypeId} {a b : ByteArray} (hx : ev L x = some (.string a)) (hy : ev L y = some (.string b)) (h : a.toList = b.toList) : Yl C V H L (.binOp .eql t x y t') ty (.bool true) := by
  have := Y.eqStr (C := C) (V := V) (H := H) (ty := ty) (t := t) (t' := t') hx hy
  rw [h, beq_self_eq_true] at this; exact this
end
end Go.K

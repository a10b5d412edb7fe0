/- The rules of the walks on floats.
Conditions: none; nothing here speaks of a program. -/
import Derived.Test.YtjfacdepgkdoeaaK14
import Derived.Test.YtjfacdepgkdoeaaF1
namespace Go.K
section
variable {C : Cx} {V : Vw} {H : Hp} {L : Sl} {ty : TypeId}
def fltRes (op : BinOp) (k : FloatKind) (a b : Nat) : Option Value :=
  match op with
  | .eql => some (.bool (k.format.order a b == some .eq)) | .neq => some (.bool (k.format.order a b != some .eq))
  | .lss => some (.bool (k.format.order a b == some .lt)) | .leq => some (.bool (k.format.order a b == some .lt || k.format.order a b == some .eq))
  | .gtr => some (.bool (k.format.order a b == some .gt)) | .geq => some (.bool (k.format.order a b == some .gt || k.format.order a b == some .eq))
  | _ => none
theorem run_eqGuard_float {P : Program} {w : World} (op : BinOp) (t : TypeId) (x y : Operand) (k k' : FloatKind) (a b : Nat) : (eqGuard op t x y (.float k a) (.float k' b)).run P w = .ok () w := by
  unfold eqGuard; cases op <;> rfl
theorem Y.fcmp {x y : Operand} {k : FloatKind} {m n : Nat} {op : BinOp} {t t' : TypeId} {r : Value} (hx : ev L x = some (.float k m)) (hy : ev L y = some (.float k n)) (hr : fltRes op k m n = some r) : Yl C V H L (.binOp op t x y t') ty r := (fun V2 a w hle i o ho hty => by
  simp only [execOp, ho, i.1.ev hx, i.1.ev hy, Sem.run_bind, run_eqGuard_float, Result.andThen_ok]
  cases op <;> simp only [fltRes, Option.some.injEq, reduceCtorEq] at hr <;> subst hr <;> simp [binOp, Op.floatCmp])
theorem Y.farith {x y : Operand} {k : FloatKind} {m n r : Nat} {op : BinOp} {t t' : TypeId} (hx : ev L x = some (.float k m)) (hy : ev L y = some (.float k n)) (hr : floatBits op k m n = some r) : Yl C V H L (.binOp op t x y t') ty (.float k r) := (fun V2 a w hle i o ho hty => by
  simp only [execOp, ho, i.1.ev hx, i.1.ev hy, Sem.run_bind, run_eqGuard_float, Result.andThen_ok, run_float_arith w op t k m n r hr, Sem.run_pure])
theorem Y.fneg {x : Operand} {k : FloatKind} {m : Nat} {t : TypeId} (hx : ev L x = some (.float k m)) : Yl C V H L (.unOp .neg t x) ty (.float k (Op.negFloat k m)) := (fun V2 a w hle i o ho hty => by
  simp [execOp, ho, i.1.ev hx, Op.unary])
/-- number to float, float to number. -/
def fltT (P : Program) (s t : TypeId) : Option FloatKind := match P.underlying s, P.underlying t with
  | some _, some (.float k) => some k
  | _, _ => none
theorem Y.convIF {x : Operand} {q : IntKind} {k : FloatKind} {n : Int} {s t : TypeId} (hx : ev L x = some (.int q n)) (ht : fltT C.P s t = some k) : Yl C V H L (.convert s t x) ty (.float k (floatOfInt k n)) := (fun V2 a w hle i o ho hty => by
  unfold fltT at ht
  split at ht
  · rename_i u k' hs hd
    cases ht
    simp only [execOp, ho, i.1.ev hx, run_convert_int_float w s t q k n (by rw [hs]; rfl) hd, Sem.run_bind, Result.andThen_ok, Sem.run_pure]
  · cases ht)
theorem Y.convFI {x : Operand} {q : FloatKind} {k : IntKind} {b : Nat} {n : Int} {s t : TypeId} (hx : ev L x = some (.float q b)) (ht : intT C.P s t = some k) (hn : floatToIntVal q b k = some n) : Yl C V H L (.convert s t x) ty (.int k n) := (fun V2 a w hle i o ho hty => by
  unfold intT at ht
  split at ht
  · rename_i u k' hs hd
    cases ht
    simp only [execOp, ho, i.1.ev hx, run_convert_float_int w s t q k b n (by rw [hs]; rfl) hd hn, Sem.run_bind, Result.andThen_ok, Sem.run_pure]
  · cases ht)
def fmin (k : FloatKind) (x y : Nat) : Nat := match k.format.order x y with
  | some .lt => x
  | some .gt => y
  | _ => if (k.decode x).neg then x else y
theorem Y.minF {x y : Operand} {t : TypeId} {ts : Array TypeId} {k : FloatKind} {m n : Nat} (hx : ev L x = some (.float k m)) (hy : ev L y = some (.float k n)) (ho : k.format.order m n ≠ none) : Yl C V H L (.call { callee := .builtin .min, args := #[x, y], argTypes := ts }) t (.float k (fmin k m n)) := (fun V2 a w hle i o ho' hty => by
  have e : (Builtin.min2 (.float k m) (.float k n)).run C.P w = .ok (.float k (fmin k m n)) w := by
    unfold Builtin.min2 fmin
    cases h : k.format.order m n with
    | none => exact absurd h ho
    | some c => cases c <;> simp [h]
  simp [execOp, ho', resolve, invoke, builtin, Builtin.min_, i.1.ev hx, i.1.ev hy, e])
/-- A function of the library that has no body, and is made in place by e. -/
def isExt (P : Program) (f : FuncId) (e : Array Value → Sem Value) : Prop := ∃ fn, P.funcs[f]? = some fn ∧ (fn.name == "runtime.NumGoroutine") = false ∧ fn.body.isNone = true ∧ Extern.findNext fn = none ∧ Extern.find fn = some e
theorem Y.ext {x : Operand} {f : FuncId} {at_ : Array TypeId} {e : Array Value → Sem Value} {u v : Value} (hf : isExt C.P f e) (hx : ev L x = some u) (he : ∀ w, (e #[u]).run C.P w = .ok v w) :
    Yl C V H L (.call { callee := .value (.func f), args := #[x], argTypes := at_ }) ty v := (fun V2 a w hle i o ho hty => by
  obtain ⟨fn, h1, h2, h3, h4, h5⟩ := hf
  have e1 := i.1.ev hx
  have e2 : a.eval (.func f) = .func (.func f) #[] #[] := i.1.ev (x := .func f) rfl
  have hr := run_callFunc_extern h1 h2 h3 h4 h5 #[u] w
  rw [he w] at hr
  simp only [execOp, ho, resolve, e2, Deferred.ofValue, Sem.run_bind, Sem.run_pure, Result.andThen_ok, invoke, List.map_toArray, List.map_cons, List.map_nil, e1]
  simpa using hr)
end
end Go.K

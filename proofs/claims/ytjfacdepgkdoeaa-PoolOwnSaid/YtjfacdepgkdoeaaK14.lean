/- More rules of the walks: pointers beside nil; what is dropped at a return.
Conditions: none; nothing here speaks of a program. -/
import Derived.Test.YtjfacdepgkdoeaaK12
namespace Go.K
section
variable {C : Cx} {V : Vw} {H : Hp} {L : Sl} {ty : TypeId}
def ptrT (P : Program) (t : TypeId) : Bool := match P.underlying t with
  | some (.pointer _) => true
  | _ => false
theorem run_equal_nil {P : Program} {w : World} {t : TypeId} (ht : ptrT P t = true) (p : Option Addr) : (Op.equal t (.pointer p) (.pointer none)).run P w = .ok p.isNone w := by
  have hu : ∃ e, P.underlying t = some (.pointer e) := by
    unfold ptrT at ht; split at ht
    · exact ⟨_, ‹_›⟩
    · cases ht
  obtain ⟨e, hu⟩ := hu
  unfold Op.equal
  rw [show Op.maxDepth = 9999 + 1 from rfl, Op.equalIn]
  cases p <;> simp [run_underlying hu]
theorem Y.eqNil {x y : Operand} {t t' : TypeId} {p : Option Addr} (hx : ev L x = some (.pointer p)) (hy : ev L y = some (.pointer none)) (ht : ptrT C.P t = true) : Yl C V H L (.binOp .eql t x y t') ty (.bool p.isNone) := (fun V2 a w hle i o ho hty => by
  have hg : (eqGuard .eql t x y (.pointer p) (.pointer none)).run C.P w = .ok () w := rfl
  simp only [execOp, ho, i.1.ev hx, i.1.ev hy, Sem.run_bind, hg, Result.andThen_ok, binOp, run_equal_nil ht, Sem.run_pure])
theorem Y.neNil {x y : Operand} {t t' : TypeId} {p : Option Addr} (hx : ev L x = some (.pointer p)) (hy : ev L y = some (.pointer none)) (ht : ptrT C.P t = true) : Yl C V H L (.binOp .neq t x y t') ty (.bool (!p.isNone)) := (fun V2 a w hle i o ho hty => by
  have hg : (eqGuard .neq t x y (.pointer p) (.pointer none)).run C.P w = .ok () w := rfl
  simp only [execOp, ho, i.1.ev hx, i.1.ev hy, Sem.run_bind, hg, Result.andThen_ok, binOp, run_equal_nil ht, Sem.run_pure])
theorem Y.eqI_t {x y : Operand} {k : IntKind} {m : Int} {t t' : TypeId} (hx : ev L x = some (.int k m)) (hy : ev L y = some (.int k m)) : Yl C V H L (.binOp .eql t x y t') ty (.bool true) := Y.int hx hy (by simp [intRes])
theorem Y.neI_f {x y : Operand} {k : IntKind} {m : Int} {t t' : TypeId} (hx : ev L x = some (.int k m)) (hy : ev L y = some (.int k m)) : Yl C V H L (.binOp .neq t x y t') ty (.bool false) := Y.int hx hy (by simp [intRes])
theorem Y.eqB_t {x y : Operand} {b : Bool} {t t' : TypeId} (hx : ev L x = some (.bool b)) (hy : ev L y = some (.bool b)) (ht : tagOf C.P t = some (1, .i64)) : Yl C V H L (.binOp .eql t x y t') ty (.bool true) := by
  have := Y.eqB (C := C) (V := V) (H := H) (ty := ty) (t' := t') hx hy ht
  rw [beq_self_eq_true] at this; exact this
theorem Y.neB_f {x y : Operand} {b : Bool} {t t' : TypeId} (hx : ev L x = some (.bool b)) (hy : ev L y = some (.bool b)) (ht : tagOf C.P t = some (1, .i64)) : Yl C V H L (.binOp .neq t x y t') ty (.bool false) := by
  have := Y.neB (C := C) (V := V) (H := H) (ty := ty) (t' := t') hx hy ht
  rw [bne_self_eq_false] at this; exact this
end
section
variable {C : Cx} {V : Vw} {H : Hp} {L : Sl} {Q : Exit → Act → World → Prop} {ops : Array Oper} {os : List Oper} {K : Act → World → Prop}
/-- What stands behind a test that was not made is not made. -/
theorem Run.off_u {o : Oper} {j : Nat} {t : Bool} {d dd : Nat} (hg : o.guard = some (j, t)) (hj : ((ops[j]?).bind (·.dst)) = some d) (hb : L.lookup d = some undef) (hd : o.dst = some dd) (hn : dd < C.n)
    (k : Run C ops V H ((dd, undef) :: L) os Q) : Run C ops V H L (o :: os) Q := fun a w i => by
  have hw : Region.wanted o (yielded ops a.tmps) = false := by
    simp only [Region.wanted, hg, yielded, hj, Option.bind_some, i.1.lk d _ hb]; cases t <;> rfl
  unfold wpList
  rw [if_neg (by simp [hw]), hd]
  exact k _ _ ⟨i.1.put hn _, i.2⟩
theorem RunQ.off_u {o : Oper} {j : Nat} {t : Bool} {d dd : Nat} (hg : o.guard = some (j, t)) (hj : ((ops[j]?).bind (·.dst)) = some d) (hb : L.lookup d = some undef) (hd : o.dst = some dd) (hn : dd < C.n)
    (k : RunQ C ops V H ((dd, undef) :: L) os K) : RunQ C ops V H L (o :: os) K := fun a i => by
  have hw : Region.wanted o (yielded ops a.tmps) = false := by
    simp only [Region.wanted, hg, yielded, hj, Option.bind_some, i.lk d _ hb]; cases t <;> rfl
  unfold wpQuiet
  rw [if_neg (by simp [hw]), hd]
  exact k _ (i.put hn _)
end
section
variable {L : Sl} {V : Vw} {H : Hp}
variable {fn : Func} {B : World} {S : List Nat} {U : Vw} {P : Program} {n : Nat} {R : Value → Vw → Hp → Prop}
/-- A result that lies in memory; the first m segments are dropped. -/
theorem Ex.retCellT {t ad b off z : Nat} {c : Array Value} {e : TypeId} {fz : Nat × Nat} {vs : List Value} {H0 : Hp} (m : Nat) (hr : fn.results = #[.cell ad t]) (hv : L.lookup ad = some (.pointer (some ⟨b, off, none⟩))) (ht : aggsz P t = some z) (hk : Kn V H b (.cells c e fz)) (hc : cellsAt c off z = some vs)
    (h0 : H = H.take m ++ H0) (hR : R (.agg vs.toArray) V H0) : Ex ⟨P, n, B, S, U, []⟩ V H L (bodyPost P fn fun e w' => ∃ v V' H', e = .returned v ∧ R v V' H' ∧ St B S U V' H' w') .ret := fun a w i => by
  refine ⟨i.1.df, .agg vs.toArray, ?_, _, V, H0, rfl, hR, ?_⟩
  · have h1 := run_isAgg_agg (w := w) ht
    have h2 : a.tmps[ad]?.getD undef = .pointer (some ⟨b, off, none⟩) := by rw [i.1.lk _ _ hv]; rfl
    have h3 := run_loadCells (P := P) (hk.st i.2) off z 0 vs #[] hc
    simp [results, hr, Array.getD_eq_getD_getElem?, h2, asAddr, loadVar, h1.1, h1.2, loadCells, h3]
  · have := i.2; rw [h0] at this; exact this.drop
end
end Go.K

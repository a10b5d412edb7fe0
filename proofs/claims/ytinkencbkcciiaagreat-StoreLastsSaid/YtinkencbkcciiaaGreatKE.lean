/- The rules of the walks on statements whose order Go leaves open and which call yield behind a head that reads.
Conditions: none; nothing here speaks of a program. -/
import Derived.Test.YtinkencbkcciiaaGreatKC
set_option linter.unusedSimpArgs false
set_option linter.unusedVariables false
set_option linter.unusedSectionVars false
namespace Go.K
section
variable {P : Program} {ops : Array Oper} {md : Region.Mode} {D : World → Prop} {Q : Exit → Act → World → Prop}
end
section
variable {C : Cx} {V : Vw} {H : Hp} {L : Sl} {Q : Exit → Act → World → Prop} {ops : Array Oper} {os : List Oper}
theorem RunI.on {o : Oper} {j : Nat} {t : Bool} {d : Nat} {b : Bool} (hg : o.guard = some (j,t)) (hj : ((ops[j]?).bind (·.dst)) = some d) (hb : L.lookup d = some (.bool b)) (e : b = t)
    (k : RunI C ops V H L (⟨o.dst,o.op,o.type,o.pos,o.after,none⟩ :: os) Q) : RunI C ops V H L (o :: os) Q := fun a w i => by
  have h := k a w i
  have hw : Region.wanted o (yielded ops a.tmps) = true := by
    simp only [Region.wanted,hg,yielded,hj,Option.bind_some,i.1.lk d _ hb,e,beq_self_eq_true]
  unfold wpListIn at h ⊢
  rw [if_pos hw]
  rw [if_pos (by simp [Region.wanted])] at h
  exact h
theorem RunI.off {o : Oper} {j : Nat} {t : Bool} {d dd : Nat} {b : Bool} (hg : o.guard = some (j,t)) (hj : ((ops[j]?).bind (·.dst)) = some d) (hb : L.lookup d = some (.bool b)) (e : b = !t) (hd : o.dst = some dd) (hn : dd < C.n)
    (k : RunI C ops V H ((dd,undef) :: L) os Q) : RunI C ops V H L (o :: os) Q := fun a w i => by
  have hw : Region.wanted o (yielded ops a.tmps) = false := by
    simp only [Region.wanted,hg,yielded,hj,Option.bind_some,i.1.lk d _ hb,e]; cases t <;> rfl
  unfold wpListIn
  rw [if_neg (by rw [hw]; decide)]
  refine ⟨fun _ _ => trivial,?_⟩
  rw [hd]
  exact k _ w ⟨i.1.put hn undef,i.2⟩
end
end Go.K
namespace Go.K
open Go.MapKept
section
variable {C : Cx} {V : Vw} {H : Hp} {L : Sl} {Q : Exit → Act → World → Prop} {ops : Array Oper} {os : List Oper}
variable {ty : TypeId} {pos : String} {aft : Array Edge} {d : Nat}
theorem Run.recut {H' : Hp} (p : H'.flatten.Perm H.flatten) (k : Run C ops V H' L os Q) : Run C ops V H L os Q := fun a w i => k a w ⟨i.1,i.2.recut p⟩
theorem Ex.recut {e : Exit} {H' : Hp} (p : H'.flatten.Perm H.flatten) (k : Ex C V H' L Q e) : Ex C V H L Q e := fun a w i => k a w ⟨i.1,i.2.recut p⟩
theorem Does.recut {P : Program} {f : FuncId} {args : List Value} {H' : Hp} {R : Value → Vw → Hp → Prop} (h : Does P f args V H R) (p : H'.flatten.Perm H.flatten) : Does P f args V H' R :=
  ⟨h.1,fun B hB => (h.2 B ((hB.recut p.symm).memS (fun b => (p.map (·.1)).mem_iff))).mono fun e w' ⟨v,V',H2,q1,q2,q3⟩ => ⟨v,V',H2,q1,q2,q3.memS (fun b => ((p.map (·.1)).mem_iff).symm)⟩⟩
end
end Go.K
namespace Go.K
section
variable {C : Cx} {V : Vw} {H : Hp} {L : Sl} {Q : Exit → Act → World → Prop}
end
end Go.K

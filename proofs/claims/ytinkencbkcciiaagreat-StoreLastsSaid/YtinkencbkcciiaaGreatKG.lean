/- An element's address, where what it lies in is one's own.
Conditions: none; nothing here speaks of a program. -/
import Derived.Test.YtinkencbkcciiaaGreatKF
set_option linter.unusedSimpArgs false
set_option linter.unusedVariables false
set_option linter.unusedSectionVars false
namespace Go.K
theorem St.forget {B : World} {S : List Nat} {V V' : Vw} {H : Hp} {w : World} (h : St B S V V' H w) : St B S V V H w :=
  ⟨h.os,h.tape,h.output,h.size,h.fr,h.own,h.nd,h.dom,fun _ _ k => k,fun b o k => h.vh b o (h.le b o k),fun b o k => h.vd b o (h.le b o k),fun _ _ k => .inl k⟩
theorem Does.forget {P : Program} {f : FuncId} {args : List Value} {V : Vw} {H : Hp} {R R' : Value → Vw → Hp → Prop} (h : Does P f args V H R) (k : ∀ v V' H',V.le V' → R v V' H' → R' v V H') : Does P f args V H R' :=
  ⟨h.1,fun B hB => (h.2 B hB).mono fun e w' ⟨v,V',H',q1,q2,q3⟩ => ⟨v,V,H',q1,k v V' H' q3.le q2,q3.forget⟩⟩
section
variable {C : Cx} {V : Vw} {H : Hp} {L : Sl} {Q : Exit → Act → World → Prop} {ops : Array Oper} {os : List Oper}
variable {ty : TypeId} {pos : String} {aft : Array Edge} {d : Nat}
theorem Y.idxO {x y : Operand} {t e z n c : Nat} {T : TypeId} {p : Option Addr} {kk : IntKind} {m : Int} {xs : List Value} {s : Sg} (i : Nat) (hx : ev L x = some (.slice p n c)) (hy : ev L y = some (.int kk m)) (ht : elemS C.P t = some (e,z)) (ho : Ow T z (.slice p n c) n xs s)
    (hm : m = (i : Int)) (hi : i < n) : Yl C V H L (.indexAddr t x y) ty (elp p (i * z)) := by
  obtain ⟨b,off,cs,e',fz,rfl,_,_⟩ := (Ow.rd (V := V) (H := [s]) ho 0 rfl).at (by omega)
  subst hm
  exact Y.idxAddr hx hy ht (by omega) (by simpa using hi)
end
end Go.K

/- Results that lie in memory, each one cell.
Conditions: none; nothing here speaks of a program. -/
import Derived.Test.YtinkencbkcciiaaGreatKB
set_option linter.unusedSimpArgs false
set_option linter.unusedVariables false
set_option linter.unusedSectionVars false
namespace Go.K
section
variable {L : Sl} {V : Vw} {H : Hp}
variable {fn : Func} {B : World} {S : List Nat} {U : Vw} {P : Program} {n : Nat} {R : Value → Vw → Hp → Prop}
theorem Ex.retS2 {t ad b off t' ad' b' off' : Nat} {c c' : Array Value} {e e' : TypeId} {fz fz' : Nat × Nat} {v v' : Value} (is : List Nat) (hr : fn.results = #[.cell ad t,.cell ad' t']) (hv : L.lookup ad = some (.pointer (some ⟨b,off,none⟩))) (hv' : L.lookup ad' = some (.pointer (some ⟨b',off',none⟩)))
    (ht : scal P t = true) (ht' : scal P t' = true) (hk : Kn V H b (.cells c e fz)) (hk' : Kn V H b' (.cells c' e' fz')) (hc : c[off]? = some v) (hc' : c'[off']? = some v')
    (hR : R (.tuple #[v,v']) V (pull is H).2) : Ex ⟨P,n,B,S,U,[]⟩ V H L (bodyPost P fn fun e w' => ∃ v V' H',e = .returned v ∧ R v V' H' ∧ St B S U V' H' w') .ret := fun a w i => by
  refine ⟨i.1.df,.tuple #[v,v'],?_,_,V,(pull is H).2,rfl,hR,(i.2.perm (pull_perm is H)).drop⟩
  have h2 : a.tmps[ad]?.getD undef = .pointer (some ⟨b,off,none⟩) := by rw [i.1.lk _ _ hv]; rfl
  have h2' : a.tmps[ad']?.getD undef = .pointer (some ⟨b',off',none⟩) := by rw [i.1.lk _ _ hv']; rfl
  have h3 := cell_of (hk.st i.2) hc
  have h3' := cell_of (hk'.st i.2) hc'
  simp [results,hr,Array.getD_eq_getD_getElem?,h2,h2',asAddr,loadVar,run_isAgg_scal ht,run_isAgg_scal ht',h3,h3']
end
end Go.K
namespace Go.K
open Go.ChangeShapes Go.WideShapes Go.ChangeAt Go.RowKit
end Go.K

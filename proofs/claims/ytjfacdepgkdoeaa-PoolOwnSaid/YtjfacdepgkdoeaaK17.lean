/- Two results that lie in memory.
Conditions: none; nothing here speaks of a program. -/
import Derived.Test.YtjfacdepgkdoeaaK14
namespace Go.K
section
variable {L : Sl} {V : Vw} {H : Hp}
variable {fn : Func} {B : World} {S : List Nat} {U : Vw} {P : Program} {n : Nat} {R : Value → Vw → Hp → Prop}
theorem Ex.retCells {t ad b off z t' ad' b' off' z' : Nat} {c c' : Array Value} {e e' : TypeId} {fz fz' : Nat × Nat} {vs vs' : List Value} (is : List Nat) (hr : fn.results = #[.cell ad t, .cell ad' t']) (hv : L.lookup ad = some (.pointer (some ⟨b, off, none⟩))) (hv' : L.lookup ad' = some (.pointer (some ⟨b', off', none⟩)))
    (ht : aggsz P t = some z) (ht' : aggsz P t' = some z') (hk : Kn V H b (.cells c e fz)) (hk' : Kn V H b' (.cells c' e' fz')) (hc : cellsAt c off z = some vs) (hc' : cellsAt c' off' z' = some vs')
    (hR : R (.tuple #[.agg vs.toArray, .agg vs'.toArray]) V (pull is H).2) : Ex ⟨P, n, B, S, U, []⟩ V H L (bodyPost P fn fun e w' => ∃ v V' H', e = .returned v ∧ R v V' H' ∧ St B S U V' H' w') .ret := fun a w i => by
  refine ⟨i.1.df, .tuple #[.agg vs.toArray, .agg vs'.toArray], ?_, _, V, (pull is H).2, rfl, hR, (i.2.perm (pull_perm is H)).drop⟩
  have h1 := run_isAgg_agg (w := w) ht
  have h1' := run_isAgg_agg (w := w) ht'
  have h2 : a.tmps[ad]?.getD undef = .pointer (some ⟨b, off, none⟩) := by rw [i.1.lk _ _ hv]; rfl
  have h2' : a.tmps[ad']?.getD undef = .pointer (some ⟨b', off', none⟩) := by rw [i.1.lk _ _ hv']; rfl
  have h3 := run_loadCells (P := P) (hk.st i.2) off z 0 vs #[] hc
  have h3' := run_loadCells (P := P) (hk'.st i.2) off' z' 0 vs' #[] hc'
  simp [results, hr, Array.getD_eq_getD_getElem?, h2, h2', asAddr, loadVar, h1.1, h1.2, h1'.1, h1'.2, loadCells, h3, h3']
end
end Go.K

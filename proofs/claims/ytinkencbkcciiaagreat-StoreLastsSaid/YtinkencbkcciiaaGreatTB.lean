/- A table as a piece of memory; the first that is bound so; a new table.
Conditions: none; no program in sight. -/
import Derived.Test.YtinkencbkcciiaaGreatTA
import Derived.Test.YtinkencbkcciiaaGreatRC
set_option linter.unusedSimpArgs false
set_option linter.unusedVariables false
set_option linter.unusedSectionVars false
namespace Go.K
namespace Rg
theorem pool_can {l : List Rg} (h : (pool l).2 = 0) : Can (pool l).1 ∧ cnt (pool l).1 ≤ 256 := by
  by_cases c : l.any odd = true
  · rw [pool_odd c] at h; cases h
  · have c : l.any odd = false := by simpa using c
    by_cases k : cnt (can l) > 256
    · rw [pool_full c k] at h; cases h
    · rw [pool_ok c k]; exact ⟨(can_spec (odd_all c)).1,by show cnt (can l) ≤ 256; omega⟩
theorem at_in2 {as : List Int} {i : Nat} (h : i < as.length) : at_ as (i : Int) = (as.getD i 0,0) := by
  unfold at_; rw [if_pos (by omega)]; rfl
end Rg
namespace Le
def first (l : List Le) (b : Int) : Int × Bool := match bnd l b with
  | [] => (0,false)
  | x :: _ => (x.addr,true)
theorem all_perm (l : List Le) : l.Perm (l.filter fun _ => true) := by rw [List.filter_eq_self.2 fun _ _ => rfl]
def In (T : TypeId) (l : List Le) (tx : Nat) (s : Sg) : Prop := Ris l ∧ l.length ≤ 256 ∧ ∃ vm sm,Om .u32 vm (mt l) sm ∧ s = ([[(tx,.cells #[vm] T (0,0))],sm] : Hp).flatten
def new (as : List Int) : List Le := as.map fun a => bare a 0 0
theorem new_len (as : List Int) : (new as).length = as.length := by unfold new; simp
theorem new_take {as : List Int} {i : Nat} (h : i < as.length) : new (as.take (i + 1)) = new (as.take i) ++ [bare (as.getD i 0) 0 0] := by
  unfold new; rw [take_succ_getD as i 0 h]; simp
theorem new_ris {as : List Int} (h : as.Pairwise (· < ·)) : Ris (new as) := by
  unfold new Ris; rw [List.pairwise_map]; exact h
theorem new_set {as : List Int} {i : Nat} (h : as.Pairwise (· < ·)) (hi : i < as.length) : mset (mt (new (as.take i))) (as.getD i 0) (agg (bare (as.getD i 0) 0 0)) = mt (new (as.take (i + 1))) := by
  rw [new_take hi,mt_snoc]
  refine mset_none ?_
  rw [mt_get]
  have : get (new (as.take i)) (as.getD i 0) = none := by
    unfold get; rw [List.find?_eq_none]
    intro x hx
    obtain ⟨a,ha,rfl⟩ := List.mem_map.1 hx
    have h2 := h
    rw [← List.take_append_drop i as] at h2
    have := (List.pairwise_append.1 h2).2.2 a ha (as.getD i 0) (by rw [List.getD_eq_getElem?_getD,List.getElem?_eq_getElem hi,List.drop_eq_getElem_cons hi]; exact List.mem_cons_self ..)
    show ¬ ((a == as.getD i 0) = true)
    rw [beq_iff_eq]; omega
  rw [this]; rfl
end Le
end Go.K

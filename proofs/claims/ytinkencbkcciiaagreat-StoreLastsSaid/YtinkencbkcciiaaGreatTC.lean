/- The document's table: what is found in it, told of a beginning of it.
Conditions: none; no program in sight. -/
import Derived.Test.YtinkencbkcciiaaGreatTB
set_option linter.unusedSimpArgs false
set_option linter.unusedVariables false
set_option linter.unusedSectionVars false
namespace Go.K
namespace Le
variable {l : List Le} {i : Nat} {b now : Int} {c : ByteArray}
end Le
end Go.K
namespace Go.K
namespace Le
variable {l ls : List Le} {i n : Nat} {b now : Int} {c : ByteArray} {x : Le}
def long (n : Nat) (ls : List Le) : Bool := ls.any (fun x => decide (x.client.size > 200)) || (decide (n > 50) || decide (ls.length > 200))
theorem mem_getD (hi : i < l.length) : l.getD i dflt ∈ l := by
  rw [List.getD_eq_getElem?_getD,List.getElem?_eq_getElem hi]; exact List.getElem_mem hi
theorem get_some (a : Int) (l : List Le) : (get l a).isSome = l.any (fun y => y.addr == a) := by unfold get; rw [Bool.eq_iff_iff,List.find?_isSome,List.any_eq_true]
end Le
namespace Rg
def p13 : List Rg := [⟨1,3⟩]
end Rg
namespace Le
end Le
end Go.K

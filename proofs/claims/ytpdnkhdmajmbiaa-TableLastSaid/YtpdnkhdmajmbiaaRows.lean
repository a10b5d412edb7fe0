/-
  No cell of these rows narrows 'for every input' (looked for: loops, veiled, ifaces, maps, wideKeys, modest, calm, conditions, laid).
  DERIVED. THE GIVEN ROWS OF THIS SEAT. 10 by the template 'for every input the law returns true; each argument reads behind the call as it read before'; 0 by the template 'total and deterministic' (their statements: YtpdnkhdmajmbiaaTotals.lean).
  GIVEN WITH THE SEED: the statements are not yours to turn. If you find one false, say at which input.
  Laid BY PROGRAM, IN A SANDBOX (cutbox-rows.mjs): the forced cells as the released guide's own fill.sh prints them over the translation c6d1db8ac7ba8813… (all of the seat's roots in one cut). By AI agents, Wed Nov 11 2026. No macro, syntax, notation, axiom, sorry.
-/
import Derived.Test.YtpdnkhdmajmbiaaChecked
import GoSem.Claim
import GoSem.ClaimJoined
import GoSem.ClaimMapViews
import Derived.JoinedTies
import Derived.KernelRfl
namespace Go.Proofs.Ytpdnkhdmajmbiaa
/- THE CELL 'sum', in the pinned program and in every row, IS THE sha256 OF THE DUMP (.gsa) THAT YtpdnkhdmajmbiaaProg.lean LOADS. Nothing in Lean hashes anything: it is a label: what it is worth is what the hold of that sum in a sandbox is worth. -/
noncomputable def Try.pinned : Pinned := { name := "ytpdnkhdmajmbiaa", sum := "c6d1db8ac7ba88133d030ec78bfbf39d1079302c672fe888ae5b3f83766886b8", checked := Try.checked }
namespace Rows
def none {H : Type} : Left H := { results := [], args := [] }

/-- 'lessorlaw18.OutboxOnce': WHATEVER THE INPUT: true; the input reads as it did. -/
def outboxOnceSpec : ChangeSpec := { name := "outboxOnce", fn := fun _ => fun
  | [d] => { results := [.lit (.bool true)], args := [d] }
  | _ => none }
def outboxOnceRow : OpenClaim := { program := "ytpdnkhdmajmbiaa", sum := "c6d1db8ac7ba88133d030ec78bfbf39d1079302c672fe888ae5b3f83766886b8", func := "lessor/lessorlaw18.OutboxOnce", spec := "outboxOnce", unfollowed := true, recurses := true, apart := false }
def OutboxOnceSaid : Prop := outboxOnceRow.holds Try.pinned (OpenSpec.ofChange outboxOnceSpec)

/-- ITS FALSE NEIGHBOUR: 'it returns false'. Refute it at one input. -/
def outboxOnceWrong : ChangeSpec := { name := "outboxOnce", fn := fun _ => fun
  | [d] => { results := [.lit (.bool false)], args := [d] }
  | _ => none }
def OutboxOnceWrongFalsely : Prop := outboxOnceRow.holds Try.pinned (OpenSpec.ofChange outboxOnceWrong)

/-- 'lessorlaw18.OutboxSeen': WHATEVER THE INPUT: true; the input reads as it did. -/
def outboxSeenSpec : ChangeSpec := { name := "outboxSeen", fn := fun _ => fun
  | [d1, d2] => { results := [.lit (.bool true)], args := [d1, d2] }
  | _ => none }
def outboxSeenRow : OpenClaim := { program := "ytpdnkhdmajmbiaa", sum := "c6d1db8ac7ba88133d030ec78bfbf39d1079302c672fe888ae5b3f83766886b8", func := "lessor/lessorlaw18.OutboxSeen", spec := "outboxSeen", unfollowed := true, recurses := true, apart := false }
def OutboxSeenSaid : Prop := outboxSeenRow.holds Try.pinned (OpenSpec.ofChange outboxSeenSpec)

/-- ITS FALSE NEIGHBOUR: 'it returns false'. Refute it at one input. -/
def outboxSeenWrong : ChangeSpec := { name := "outboxSeen", fn := fun _ => fun
  | [d1, d2] => { results := [.lit (.bool false)], args := [d1, d2] }
  | _ => none }
def OutboxSeenWrongFalsely : Prop := outboxSeenRow.holds Try.pinned (OpenSpec.ofChange outboxSeenWrong)

/-- 'lessorlaw18.OutboxLast': WHATEVER THE INPUT: true; the input reads as it did. -/
def outboxLastSpec : ChangeSpec := { name := "outboxLast", fn := fun _ => fun
  | [d] => { results := [.lit (.bool true)], args := [d] }
  | _ => none }
def outboxLastRow : OpenClaim := { program := "ytpdnkhdmajmbiaa", sum := "c6d1db8ac7ba88133d030ec78bfbf39d1079302c672fe888ae5b3f83766886b8", func := "lessor/lessorlaw18.OutboxLast", spec := "outboxLast", unfollowed := true, recurses := true, apart := false }
def OutboxLastSaid : Prop := outboxLastRow.holds Try.pinned (OpenSpec.ofChange outboxLastSpec)

/-- ITS FALSE NEIGHBOUR: 'it returns false'. Refute it at one input. -/
def outboxLastWrong : ChangeSpec := { name := "outboxLast", fn := fun _ => fun
  | [d] => { results := [.lit (.bool false)], args := [d] }
  | _ => none }
def OutboxLastWrongFalsely : Prop := outboxLastRow.holds Try.pinned (OpenSpec.ofChange outboxLastWrong)

/-- 'lessorlaw18.OutboxScripts': WHATEVER THE INPUT: true; the input reads as it did. -/
def outboxScriptsSpec : ChangeSpec := { name := "outboxScripts", fn := fun _ => fun
  | [d] => { results := [.lit (.bool true)], args := [d] }
  | _ => none }
def outboxScriptsRow : OpenClaim := { program := "ytpdnkhdmajmbiaa", sum := "c6d1db8ac7ba88133d030ec78bfbf39d1079302c672fe888ae5b3f83766886b8", func := "lessor/lessorlaw18.OutboxScripts", spec := "outboxScripts", unfollowed := true, recurses := true, apart := false }
def OutboxScriptsSaid : Prop := outboxScriptsRow.holds Try.pinned (OpenSpec.ofChange outboxScriptsSpec)

/-- ITS FALSE NEIGHBOUR: 'it returns false'. Refute it at one input. -/
def outboxScriptsWrong : ChangeSpec := { name := "outboxScripts", fn := fun _ => fun
  | [d] => { results := [.lit (.bool false)], args := [d] }
  | _ => none }
def OutboxScriptsWrongFalsely : Prop := outboxScriptsRow.holds Try.pinned (OpenSpec.ofChange outboxScriptsWrong)

/-- 'lessorlaw18.OutboxAnswers': WHATEVER THE INPUT: true; the input reads as it did. -/
def outboxAnswersSpec : ChangeSpec := { name := "outboxAnswers", fn := fun _ => fun
  | [d] => { results := [.lit (.bool true)], args := [d] }
  | _ => none }
def outboxAnswersRow : OpenClaim := { program := "ytpdnkhdmajmbiaa", sum := "c6d1db8ac7ba88133d030ec78bfbf39d1079302c672fe888ae5b3f83766886b8", func := "lessor/lessorlaw18.OutboxAnswers", spec := "outboxAnswers", unfollowed := true, recurses := true, apart := false }
def OutboxAnswersSaid : Prop := outboxAnswersRow.holds Try.pinned (OpenSpec.ofChange outboxAnswersSpec)

/-- ITS FALSE NEIGHBOUR: 'it returns false'. Refute it at one input. -/
def outboxAnswersWrong : ChangeSpec := { name := "outboxAnswers", fn := fun _ => fun
  | [d] => { results := [.lit (.bool false)], args := [d] }
  | _ => none }
def OutboxAnswersWrongFalsely : Prop := outboxAnswersRow.holds Try.pinned (OpenSpec.ofChange outboxAnswersWrong)

/-- 'lessorlaw12.TableLast': WHATEVER THE INPUT: true; the input reads as it did. -/
def tableLastSpec : ChangeSpec := { name := "tableLast", fn := fun _ => fun
  | [d1, d2, d3] => { results := [.lit (.bool true)], args := [d1, d2, d3] }
  | _ => none }
def tableLastRow : OpenClaim := { program := "ytpdnkhdmajmbiaa", sum := "c6d1db8ac7ba88133d030ec78bfbf39d1079302c672fe888ae5b3f83766886b8", func := "lessor/lessorlaw12.TableLast", spec := "tableLast", unfollowed := true, recurses := true, apart := false }
def TableLastSaid : Prop := tableLastRow.holds Try.pinned (OpenSpec.ofChange tableLastSpec)

/-- ITS FALSE NEIGHBOUR: 'it returns false'. Refute it at one input. -/
def tableLastWrong : ChangeSpec := { name := "tableLast", fn := fun _ => fun
  | [d1, d2, d3] => { results := [.lit (.bool false)], args := [d1, d2, d3] }
  | _ => none }
def TableLastWrongFalsely : Prop := tableLastRow.holds Try.pinned (OpenSpec.ofChange tableLastWrong)

/-- 'lessorlaw12.TableOne': WHATEVER THE INPUT: true; the input reads as it did. -/
def tableOneSpec : ChangeSpec := { name := "tableOne", fn := fun _ => fun
  | [d1, d2] => { results := [.lit (.bool true)], args := [d1, d2] }
  | _ => none }
def tableOneRow : OpenClaim := { program := "ytpdnkhdmajmbiaa", sum := "c6d1db8ac7ba88133d030ec78bfbf39d1079302c672fe888ae5b3f83766886b8", func := "lessor/lessorlaw12.TableOne", spec := "tableOne", unfollowed := true, recurses := true, apart := false }
def TableOneSaid : Prop := tableOneRow.holds Try.pinned (OpenSpec.ofChange tableOneSpec)

/-- ITS FALSE NEIGHBOUR: 'it returns false'. Refute it at one input. -/
def tableOneWrong : ChangeSpec := { name := "tableOne", fn := fun _ => fun
  | [d1, d2] => { results := [.lit (.bool false)], args := [d1, d2] }
  | _ => none }
def TableOneWrongFalsely : Prop := tableOneRow.holds Try.pinned (OpenSpec.ofChange tableOneWrong)

/-- 'lessorlaw12.TableClients': WHATEVER THE INPUT: true; the input reads as it did. -/
def tableClientsSpec : ChangeSpec := { name := "tableClients", fn := fun _ => fun
  | [d1, d2, d3] => { results := [.lit (.bool true)], args := [d1, d2, d3] }
  | _ => none }
def tableClientsRow : OpenClaim := { program := "ytpdnkhdmajmbiaa", sum := "c6d1db8ac7ba88133d030ec78bfbf39d1079302c672fe888ae5b3f83766886b8", func := "lessor/lessorlaw12.TableClients", spec := "tableClients", unfollowed := true, recurses := true, apart := false }
def TableClientsSaid : Prop := tableClientsRow.holds Try.pinned (OpenSpec.ofChange tableClientsSpec)

/-- ITS FALSE NEIGHBOUR: 'it returns false'. Refute it at one input. -/
def tableClientsWrong : ChangeSpec := { name := "tableClients", fn := fun _ => fun
  | [d1, d2, d3] => { results := [.lit (.bool false)], args := [d1, d2, d3] }
  | _ => none }
def TableClientsWrongFalsely : Prop := tableClientsRow.holds Try.pinned (OpenSpec.ofChange tableClientsWrong)

/-- 'lessorlaw12.TableDue': WHATEVER THE INPUT: true; the input reads as it did. -/
def tableDueSpec : ChangeSpec := { name := "tableDue", fn := fun _ => fun
  | [d1, d2, d3] => { results := [.lit (.bool true)], args := [d1, d2, d3] }
  | _ => none }
def tableDueRow : OpenClaim := { program := "ytpdnkhdmajmbiaa", sum := "c6d1db8ac7ba88133d030ec78bfbf39d1079302c672fe888ae5b3f83766886b8", func := "lessor/lessorlaw12.TableDue", spec := "tableDue", unfollowed := true, recurses := true, apart := false }
def TableDueSaid : Prop := tableDueRow.holds Try.pinned (OpenSpec.ofChange tableDueSpec)

/-- ITS FALSE NEIGHBOUR: 'it returns false'. Refute it at one input. -/
def tableDueWrong : ChangeSpec := { name := "tableDue", fn := fun _ => fun
  | [d1, d2, d3] => { results := [.lit (.bool false)], args := [d1, d2, d3] }
  | _ => none }
def TableDueWrongFalsely : Prop := tableDueRow.holds Try.pinned (OpenSpec.ofChange tableDueWrong)

/-- 'lessorlaw12.TableScripts': WHATEVER THE INPUT: true; the input reads as it did. -/
def tableScriptsSpec : ChangeSpec := { name := "tableScripts", fn := fun _ => fun
  | [d1, d2, d3] => { results := [.lit (.bool true)], args := [d1, d2, d3] }
  | _ => none }
def tableScriptsRow : OpenClaim := { program := "ytpdnkhdmajmbiaa", sum := "c6d1db8ac7ba88133d030ec78bfbf39d1079302c672fe888ae5b3f83766886b8", func := "lessor/lessorlaw12.TableScripts", spec := "tableScripts", unfollowed := true, recurses := true, apart := false }
def TableScriptsSaid : Prop := tableScriptsRow.holds Try.pinned (OpenSpec.ofChange tableScriptsSpec)

/-- ITS FALSE NEIGHBOUR: 'it returns false'. Refute it at one input. -/
def tableScriptsWrong : ChangeSpec := { name := "tableScripts", fn := fun _ => fun
  | [d1, d2, d3] => { results := [.lit (.bool false)], args := [d1, d2, d3] }
  | _ => none }
def TableScriptsWrongFalsely : Prop := tableScriptsRow.holds Try.pinned (OpenSpec.ofChange tableScriptsWrong)

/- THE SECOND FORM. 'bulk': how many values and letters a reading holds, each counted each time it is reached (what is shared counts as often as it is met; a slice's spare places count too). A statement '..UptoSaid' is the law's where the arguments, and the package variables that the reading takes, are together of bulk at most 1048576: NARROWER than '..Said'. Prove '..Said' where nothing that the law and all that it calls make is longer than what came in: it says more and counts as full. Else prove '..UptoSaid'. A law counts once. -/
mutual
def uptoBulk {H : Type} : DataW H → Nat
  | .lit (.string bytes) => bytes.length + 1
  | .lit _ => 1
  | .nil => 1
  | .ptr d => uptoBulk d + 1
  | .slice elems spare => uptoBulkAll elems + uptoBulkAll spare + 1
  | .agg parts => uptoBulkAll parts + 1
  | .iface _ d => uptoBulk d + 1
  | .map entries => uptoBulkEntries entries + 1
  | .held _ => 1
def uptoBulkAll {H : Type} : List (DataW H) → Nat
  | [] => 0
  | d :: r => uptoBulk d + uptoBulkAll r
def uptoBulkEntries {H : Type} : List (Lit × DataW H) → Nat
  | [] => 0
  | x :: r => uptoBulkEntry x + uptoBulkEntries r
def uptoBulkEntry {H : Type} : Lit × DataW H → Nat
  | (.string bytes, d) => bytes.length + uptoBulk d + 1
  | (_, d) => uptoBulk d + 1
 end
def uptoSmall : (H : Type) → List (DataW H) → Bool := fun _ ds => decide (uptoBulkAll ds ≤ 1048576)
def OpenSpec.upto (s : _root_.Go.ChangeSpec) : _root_.Go.OpenSpec := { _root_.Go.OpenSpec.ofChange s with cond := some uptoSmall }

/-- 'lessorlaw18.OutboxOnce', WHERE WHAT IT READS IS OF BULK AT MOST 1048576: true; the input reads as it did. -/
def outboxOnceUptoRow : OpenClaim := { program := "ytpdnkhdmajmbiaa", sum := "c6d1db8ac7ba88133d030ec78bfbf39d1079302c672fe888ae5b3f83766886b8", func := "lessor/lessorlaw18.OutboxOnce", spec := "outboxOnce", unfollowed := true, recurses := true, apart := false, narrowed := true }
def OutboxOnceUptoSaid : Prop := outboxOnceUptoRow.holds Try.pinned (OpenSpec.upto outboxOnceSpec)

/-- 'lessorlaw18.OutboxSeen', WHERE WHAT IT READS IS OF BULK AT MOST 1048576: true; the input reads as it did. -/
def outboxSeenUptoRow : OpenClaim := { program := "ytpdnkhdmajmbiaa", sum := "c6d1db8ac7ba88133d030ec78bfbf39d1079302c672fe888ae5b3f83766886b8", func := "lessor/lessorlaw18.OutboxSeen", spec := "outboxSeen", unfollowed := true, recurses := true, apart := false, narrowed := true }
def OutboxSeenUptoSaid : Prop := outboxSeenUptoRow.holds Try.pinned (OpenSpec.upto outboxSeenSpec)

/-- 'lessorlaw18.OutboxLast', WHERE WHAT IT READS IS OF BULK AT MOST 1048576: true; the input reads as it did. -/
def outboxLastUptoRow : OpenClaim := { program := "ytpdnkhdmajmbiaa", sum := "c6d1db8ac7ba88133d030ec78bfbf39d1079302c672fe888ae5b3f83766886b8", func := "lessor/lessorlaw18.OutboxLast", spec := "outboxLast", unfollowed := true, recurses := true, apart := false, narrowed := true }
def OutboxLastUptoSaid : Prop := outboxLastUptoRow.holds Try.pinned (OpenSpec.upto outboxLastSpec)

/-- 'lessorlaw18.OutboxScripts', WHERE WHAT IT READS IS OF BULK AT MOST 1048576: true; the input reads as it did. -/
def outboxScriptsUptoRow : OpenClaim := { program := "ytpdnkhdmajmbiaa", sum := "c6d1db8ac7ba88133d030ec78bfbf39d1079302c672fe888ae5b3f83766886b8", func := "lessor/lessorlaw18.OutboxScripts", spec := "outboxScripts", unfollowed := true, recurses := true, apart := false, narrowed := true }
def OutboxScriptsUptoSaid : Prop := outboxScriptsUptoRow.holds Try.pinned (OpenSpec.upto outboxScriptsSpec)

/-- 'lessorlaw18.OutboxAnswers', WHERE WHAT IT READS IS OF BULK AT MOST 1048576: true; the input reads as it did. -/
def outboxAnswersUptoRow : OpenClaim := { program := "ytpdnkhdmajmbiaa", sum := "c6d1db8ac7ba88133d030ec78bfbf39d1079302c672fe888ae5b3f83766886b8", func := "lessor/lessorlaw18.OutboxAnswers", spec := "outboxAnswers", unfollowed := true, recurses := true, apart := false, narrowed := true }
def OutboxAnswersUptoSaid : Prop := outboxAnswersUptoRow.holds Try.pinned (OpenSpec.upto outboxAnswersSpec)

/-- 'lessorlaw12.TableLast', WHERE WHAT IT READS IS OF BULK AT MOST 1048576: true; the input reads as it did. -/
def tableLastUptoRow : OpenClaim := { program := "ytpdnkhdmajmbiaa", sum := "c6d1db8ac7ba88133d030ec78bfbf39d1079302c672fe888ae5b3f83766886b8", func := "lessor/lessorlaw12.TableLast", spec := "tableLast", unfollowed := true, recurses := true, apart := false, narrowed := true }
def TableLastUptoSaid : Prop := tableLastUptoRow.holds Try.pinned (OpenSpec.upto tableLastSpec)

/-- 'lessorlaw12.TableOne', WHERE WHAT IT READS IS OF BULK AT MOST 1048576: true; the input reads as it did. -/
def tableOneUptoRow : OpenClaim := { program := "ytpdnkhdmajmbiaa", sum := "c6d1db8ac7ba88133d030ec78bfbf39d1079302c672fe888ae5b3f83766886b8", func := "lessor/lessorlaw12.TableOne", spec := "tableOne", unfollowed := true, recurses := true, apart := false, narrowed := true }
def TableOneUptoSaid : Prop := tableOneUptoRow.holds Try.pinned (OpenSpec.upto tableOneSpec)

/-- 'lessorlaw12.TableClients', WHERE WHAT IT READS IS OF BULK AT MOST 1048576: true; the input reads as it did. -/
def tableClientsUptoRow : OpenClaim := { program := "ytpdnkhdmajmbiaa", sum := "c6d1db8ac7ba88133d030ec78bfbf39d1079302c672fe888ae5b3f83766886b8", func := "lessor/lessorlaw12.TableClients", spec := "tableClients", unfollowed := true, recurses := true, apart := false, narrowed := true }
def TableClientsUptoSaid : Prop := tableClientsUptoRow.holds Try.pinned (OpenSpec.upto tableClientsSpec)

/-- 'lessorlaw12.TableDue', WHERE WHAT IT READS IS OF BULK AT MOST 1048576: true; the input reads as it did. -/
def tableDueUptoRow : OpenClaim := { program := "ytpdnkhdmajmbiaa", sum := "c6d1db8ac7ba88133d030ec78bfbf39d1079302c672fe888ae5b3f83766886b8", func := "lessor/lessorlaw12.TableDue", spec := "tableDue", unfollowed := true, recurses := true, apart := false, narrowed := true }
def TableDueUptoSaid : Prop := tableDueUptoRow.holds Try.pinned (OpenSpec.upto tableDueSpec)

/-- 'lessorlaw12.TableScripts', WHERE WHAT IT READS IS OF BULK AT MOST 1048576: true; the input reads as it did. -/
def tableScriptsUptoRow : OpenClaim := { program := "ytpdnkhdmajmbiaa", sum := "c6d1db8ac7ba88133d030ec78bfbf39d1079302c672fe888ae5b3f83766886b8", func := "lessor/lessorlaw12.TableScripts", spec := "tableScripts", unfollowed := true, recurses := true, apart := false, narrowed := true }
def TableScriptsUptoSaid : Prop := tableScriptsUptoRow.holds Try.pinned (OpenSpec.upto tableScriptsSpec)

end Rows
end Go.Proofs.Ytpdnkhdmajmbiaa

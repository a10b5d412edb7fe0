/-
  No cell of these rows narrows 'for every input' (looked for: loops, veiled, ifaces, maps, wideKeys, modest, calm, conditions, laid).
  DERIVED. THE GIVEN ROWS OF THIS SEAT. 12 by the template 'for every input the law returns true; each argument reads behind the call as it read before'; 0 by the template 'total and deterministic' (their statements: YtjfacdepgkdoeaaTotals.lean).
  GIVEN WITH THE SEED: the statements are not yours to turn. If you find one false, say at which input.
  Laid BY PROGRAM, IN A SANDBOX (cutbox-rows.mjs): the forced cells as the released guide's own fill.sh prints them over the translation 26cc7755a67e9fb0… (all of the seat's roots in one cut). By AI agents, Wed Nov 11 2026. No macro, syntax, notation, axiom, sorry.
-/
import Derived.Test.YtjfacdepgkdoeaaChecked
import GoSem.Claim
import GoSem.ClaimJoined
import GoSem.ClaimMapViews
import Derived.JoinedTies
import Derived.KernelRfl
namespace Go.Proofs.Ytjfacdepgkdoeaa
/- THE CELL 'sum', in the pinned program and in every row, IS THE sha256 OF THE DUMP (.gsa) THAT YtjfacdepgkdoeaaProg.lean LOADS. Nothing in Lean hashes anything: it is a label: what it is worth is what the hold of that sum in a sandbox is worth. -/
noncomputable def Try.pinned : Pinned := { name := "ytjfacdepgkdoeaa", sum := "26cc7755a67e9fb0b23f1c5fea8cdf07c6f401c7dea465f579bacac5c6d78e55", checked := Try.checked }
namespace Rows
def none {H : Type} : Left H := { results := [], args := [] }

/-- 'lessorlaw17.PoolChooses': WHATEVER THE INPUT: true; the input reads as it did. -/
def poolChoosesSpec : ChangeSpec := { name := "poolChooses", fn := fun _ => fun
  | [d1, d2, d3] => { results := [.lit (.bool true)], args := [d1, d2, d3] }
  | _ => none }
def poolChoosesRow : OpenClaim := { program := "ytjfacdepgkdoeaa", sum := "26cc7755a67e9fb0b23f1c5fea8cdf07c6f401c7dea465f579bacac5c6d78e55", func := "lessor/lessorlaw17.PoolChooses", spec := "poolChooses", inPlace := ["math.Float64bits", "math.Float64frombits"], unfollowed := true, recurses := true, apart := false }
def PoolChoosesSaid : Prop := poolChoosesRow.holds Try.pinned (OpenSpec.ofChange poolChoosesSpec)

/-- ITS FALSE NEIGHBOUR: 'it returns false'. Refute it at one input. -/
def poolChoosesWrong : ChangeSpec := { name := "poolChooses", fn := fun _ => fun
  | [d1, d2, d3] => { results := [.lit (.bool false)], args := [d1, d2, d3] }
  | _ => none }
def PoolChoosesWrongFalsely : Prop := poolChoosesRow.holds Try.pinned (OpenSpec.ofChange poolChoosesWrong)

/-- 'lessorlaw17.PoolOwn': WHATEVER THE INPUT: true; the input reads as it did. -/
def poolOwnSpec : ChangeSpec := { name := "poolOwn", fn := fun _ => fun
  | [d1, d2, d3] => { results := [.lit (.bool true)], args := [d1, d2, d3] }
  | _ => none }
def poolOwnRow : OpenClaim := { program := "ytjfacdepgkdoeaa", sum := "26cc7755a67e9fb0b23f1c5fea8cdf07c6f401c7dea465f579bacac5c6d78e55", func := "lessor/lessorlaw17.PoolOwn", spec := "poolOwn", inPlace := ["math.Float64bits", "math.Float64frombits"], unfollowed := true, recurses := true, apart := false }
def PoolOwnSaid : Prop := poolOwnRow.holds Try.pinned (OpenSpec.ofChange poolOwnSpec)

/-- ITS FALSE NEIGHBOUR: 'it returns false'. Refute it at one input. -/
def poolOwnWrong : ChangeSpec := { name := "poolOwn", fn := fun _ => fun
  | [d1, d2, d3] => { results := [.lit (.bool false)], args := [d1, d2, d3] }
  | _ => none }
def PoolOwnWrongFalsely : Prop := poolOwnRow.holds Try.pinned (OpenSpec.ofChange poolOwnWrong)

/-- 'lessorlaw28.AuditHolds': WHATEVER THE INPUT: true; the input reads as it did. -/
def auditHoldsSpec : ChangeSpec := { name := "auditHolds", fn := fun _ => fun
  | [d1, d2] => { results := [.lit (.bool true)], args := [d1, d2] }
  | _ => none }
def auditHoldsRow : OpenClaim := { program := "ytjfacdepgkdoeaa", sum := "26cc7755a67e9fb0b23f1c5fea8cdf07c6f401c7dea465f579bacac5c6d78e55", func := "lessor/lessorlaw28.AuditHolds", spec := "auditHolds", unfollowed := true, recurses := true, apart := false }
def AuditHoldsSaid : Prop := auditHoldsRow.holds Try.pinned (OpenSpec.ofChange auditHoldsSpec)

/-- ITS FALSE NEIGHBOUR: 'it returns false'. Refute it at one input. -/
def auditHoldsWrong : ChangeSpec := { name := "auditHolds", fn := fun _ => fun
  | [d1, d2] => { results := [.lit (.bool false)], args := [d1, d2] }
  | _ => none }
def AuditHoldsWrongFalsely : Prop := auditHoldsRow.holds Try.pinned (OpenSpec.ofChange auditHoldsWrong)

/-- 'lessorlaw28.AuditClashes': WHATEVER THE INPUT: true; the input reads as it did. -/
def auditClashesSpec : ChangeSpec := { name := "auditClashes", fn := fun _ => fun
  | [d1, d2, d3] => { results := [.lit (.bool true)], args := [d1, d2, d3] }
  | _ => none }
def auditClashesRow : OpenClaim := { program := "ytjfacdepgkdoeaa", sum := "26cc7755a67e9fb0b23f1c5fea8cdf07c6f401c7dea465f579bacac5c6d78e55", func := "lessor/lessorlaw28.AuditClashes", spec := "auditClashes", unfollowed := true, recurses := true, apart := false }
def AuditClashesSaid : Prop := auditClashesRow.holds Try.pinned (OpenSpec.ofChange auditClashesSpec)

/-- ITS FALSE NEIGHBOUR: 'it returns false'. Refute it at one input. -/
def auditClashesWrong : ChangeSpec := { name := "auditClashes", fn := fun _ => fun
  | [d1, d2, d3] => { results := [.lit (.bool false)], args := [d1, d2, d3] }
  | _ => none }
def AuditClashesWrongFalsely : Prop := auditClashesRow.holds Try.pinned (OpenSpec.ofChange auditClashesWrong)

/-- 'lessorlaw01.AddrTurned': WHATEVER THE INPUT: true; the input reads as it did. -/
def addrTurnedSpec : ChangeSpec := { name := "addrTurned", fn := fun _ => fun
  | [d] => { results := [.lit (.bool true)], args := [d] }
  | _ => none }
def addrTurnedRow : OpenClaim := { program := "ytjfacdepgkdoeaa", sum := "26cc7755a67e9fb0b23f1c5fea8cdf07c6f401c7dea465f579bacac5c6d78e55", func := "lessor/lessorlaw01.AddrTurned", spec := "addrTurned", unfollowed := true, recurses := true, apart := false }
def AddrTurnedSaid : Prop := addrTurnedRow.holds Try.pinned (OpenSpec.ofChange addrTurnedSpec)

/-- ITS FALSE NEIGHBOUR: 'it returns false'. Refute it at one input. -/
def addrTurnedWrong : ChangeSpec := { name := "addrTurned", fn := fun _ => fun
  | [d] => { results := [.lit (.bool false)], args := [d] }
  | _ => none }
def AddrTurnedWrongFalsely : Prop := addrTurnedRow.holds Try.pinned (OpenSpec.ofChange addrTurnedWrong)

/-- 'lessorlaw01.AddrPools': WHATEVER THE INPUT: true; the input reads as it did. -/
def addrPoolsSpec : ChangeSpec := { name := "addrPools", fn := fun _ => fun
  | [d1, d2, d3] => { results := [.lit (.bool true)], args := [d1, d2, d3] }
  | _ => none }
def addrPoolsRow : OpenClaim := { program := "ytjfacdepgkdoeaa", sum := "26cc7755a67e9fb0b23f1c5fea8cdf07c6f401c7dea465f579bacac5c6d78e55", func := "lessor/lessorlaw01.AddrPools", spec := "addrPools", unfollowed := true, recurses := true, apart := false }
def AddrPoolsSaid : Prop := addrPoolsRow.holds Try.pinned (OpenSpec.ofChange addrPoolsSpec)

/-- ITS FALSE NEIGHBOUR: 'it returns false'. Refute it at one input. -/
def addrPoolsWrong : ChangeSpec := { name := "addrPools", fn := fun _ => fun
  | [d1, d2, d3] => { results := [.lit (.bool false)], args := [d1, d2, d3] }
  | _ => none }
def AddrPoolsWrongFalsely : Prop := addrPoolsRow.holds Try.pinned (OpenSpec.ofChange addrPoolsWrong)

/-- 'lessorlaw01.AddrIndex': WHATEVER THE INPUT: true; the input reads as it did. -/
def addrIndexSpec : ChangeSpec := { name := "addrIndex", fn := fun _ => fun
  | [d1, d2] => { results := [.lit (.bool true)], args := [d1, d2] }
  | _ => none }
def addrIndexRow : OpenClaim := { program := "ytjfacdepgkdoeaa", sum := "26cc7755a67e9fb0b23f1c5fea8cdf07c6f401c7dea465f579bacac5c6d78e55", func := "lessor/lessorlaw01.AddrIndex", spec := "addrIndex", unfollowed := true, recurses := true, apart := false }
def AddrIndexSaid : Prop := addrIndexRow.holds Try.pinned (OpenSpec.ofChange addrIndexSpec)

/-- ITS FALSE NEIGHBOUR: 'it returns false'. Refute it at one input. -/
def addrIndexWrong : ChangeSpec := { name := "addrIndex", fn := fun _ => fun
  | [d1, d2] => { results := [.lit (.bool false)], args := [d1, d2] }
  | _ => none }
def AddrIndexWrongFalsely : Prop := addrIndexRow.holds Try.pinned (OpenSpec.ofChange addrIndexWrong)

/-- 'lessorlaw18.OutboxOnce': WHATEVER THE INPUT: true; the input reads as it did. -/
def outboxOnceSpec : ChangeSpec := { name := "outboxOnce", fn := fun _ => fun
  | [d] => { results := [.lit (.bool true)], args := [d] }
  | _ => none }
def outboxOnceRow : OpenClaim := { program := "ytjfacdepgkdoeaa", sum := "26cc7755a67e9fb0b23f1c5fea8cdf07c6f401c7dea465f579bacac5c6d78e55", func := "lessor/lessorlaw18.OutboxOnce", spec := "outboxOnce", unfollowed := true, recurses := true, apart := false }
def OutboxOnceSaid : Prop := outboxOnceRow.holds Try.pinned (OpenSpec.ofChange outboxOnceSpec)

/-- ITS FALSE NEIGHBOUR: 'it returns false'. Refute it at one input. -/
def outboxOnceWrong : ChangeSpec := { name := "outboxOnce", fn := fun _ => fun
  | [d] => { results := [.lit (.bool false)], args := [d] }
  | _ => none }
def OutboxOnceWrongFalsely : Prop := outboxOnceRow.holds Try.pinned (OpenSpec.ofChange outboxOnceWrong)

/-- 'lessorlaw18.OutboxSeen': WHATEVER THE INPUT: true; the input reads as it did. -/
def outboxSeenSpec : ChangeSpec := { name := "outboxSeen", fn := fun _ => fun
  | [d1, d2] => { results := [.lit (.bool true)], args := [d1, d2] }
  | _ => none }
def outboxSeenRow : OpenClaim := { program := "ytjfacdepgkdoeaa", sum := "26cc7755a67e9fb0b23f1c5fea8cdf07c6f401c7dea465f579bacac5c6d78e55", func := "lessor/lessorlaw18.OutboxSeen", spec := "outboxSeen", unfollowed := true, recurses := true, apart := false }
def OutboxSeenSaid : Prop := outboxSeenRow.holds Try.pinned (OpenSpec.ofChange outboxSeenSpec)

/-- ITS FALSE NEIGHBOUR: 'it returns false'. Refute it at one input. -/
def outboxSeenWrong : ChangeSpec := { name := "outboxSeen", fn := fun _ => fun
  | [d1, d2] => { results := [.lit (.bool false)], args := [d1, d2] }
  | _ => none }
def OutboxSeenWrongFalsely : Prop := outboxSeenRow.holds Try.pinned (OpenSpec.ofChange outboxSeenWrong)

/-- 'lessorlaw18.OutboxLast': WHATEVER THE INPUT: true; the input reads as it did. -/
def outboxLastSpec : ChangeSpec := { name := "outboxLast", fn := fun _ => fun
  | [d] => { results := [.lit (.bool true)], args := [d] }
  | _ => none }
def outboxLastRow : OpenClaim := { program := "ytjfacdepgkdoeaa", sum := "26cc7755a67e9fb0b23f1c5fea8cdf07c6f401c7dea465f579bacac5c6d78e55", func := "lessor/lessorlaw18.OutboxLast", spec := "outboxLast", unfollowed := true, recurses := true, apart := false }
def OutboxLastSaid : Prop := outboxLastRow.holds Try.pinned (OpenSpec.ofChange outboxLastSpec)

/-- ITS FALSE NEIGHBOUR: 'it returns false'. Refute it at one input. -/
def outboxLastWrong : ChangeSpec := { name := "outboxLast", fn := fun _ => fun
  | [d] => { results := [.lit (.bool false)], args := [d] }
  | _ => none }
def OutboxLastWrongFalsely : Prop := outboxLastRow.holds Try.pinned (OpenSpec.ofChange outboxLastWrong)

/-- 'lessorlaw01.AddrTexts': WHATEVER THE INPUT: true; the input reads as it did. -/
def addrTextsSpec : ChangeSpec := { name := "addrTexts", fn := fun _ => fun
  | [d1, d2] => { results := [.lit (.bool true)], args := [d1, d2] }
  | _ => none }
def addrTextsRow : OpenClaim := { program := "ytjfacdepgkdoeaa", sum := "26cc7755a67e9fb0b23f1c5fea8cdf07c6f401c7dea465f579bacac5c6d78e55", func := "lessor/lessorlaw01.AddrTexts", spec := "addrTexts", unfollowed := true, recurses := true, apart := false }
def AddrTextsSaid : Prop := addrTextsRow.holds Try.pinned (OpenSpec.ofChange addrTextsSpec)

/-- ITS FALSE NEIGHBOUR: 'it returns false'. Refute it at one input. -/
def addrTextsWrong : ChangeSpec := { name := "addrTexts", fn := fun _ => fun
  | [d1, d2] => { results := [.lit (.bool false)], args := [d1, d2] }
  | _ => none }
def AddrTextsWrongFalsely : Prop := addrTextsRow.holds Try.pinned (OpenSpec.ofChange addrTextsWrong)

/-- 'lessorlaw01.AddrBack': WHATEVER THE INPUT: true; the input reads as it did. -/
def addrBackSpec : ChangeSpec := { name := "addrBack", fn := fun _ => fun
  | [d1, d2] => { results := [.lit (.bool true)], args := [d1, d2] }
  | _ => none }
def addrBackRow : OpenClaim := { program := "ytjfacdepgkdoeaa", sum := "26cc7755a67e9fb0b23f1c5fea8cdf07c6f401c7dea465f579bacac5c6d78e55", func := "lessor/lessorlaw01.AddrBack", spec := "addrBack", unfollowed := true, recurses := true, apart := false }
def AddrBackSaid : Prop := addrBackRow.holds Try.pinned (OpenSpec.ofChange addrBackSpec)

/-- ITS FALSE NEIGHBOUR: 'it returns false'. Refute it at one input. -/
def addrBackWrong : ChangeSpec := { name := "addrBack", fn := fun _ => fun
  | [d1, d2] => { results := [.lit (.bool false)], args := [d1, d2] }
  | _ => none }
def AddrBackWrongFalsely : Prop := addrBackRow.holds Try.pinned (OpenSpec.ofChange addrBackWrong)

/- THE SECOND FORM. 'bulk': how many values and letters a reading holds, each counted each time it is reached (what is shared counts as often as it is met; a slice's spare places count too). A statement '..UptoSaid' is the law's where the arguments, and the package variables that the reading takes, are together of bulk at most 1048576: NARROWER than '..Said'. Prove '..Said' where nothing that the law and all that it calls make is longer than what came in: it says more and counts as full. Else prove '..UptoSaid'. A law counts once. -/
mutual
def uptoBulk {H : Type} : DataW H → Nat
  | .lit (.string bytes) => bytes.length + 1
  | .lit _ => 1
  | .nil => 1
  | .ptr d => uptoBulk d + 1
  | .slice elems spare => uptoBulkAll elems + uptoBulkAll spare + 1
  | .agg parts => uptoBulkAll parts + 1
  | .iface _ d => uptoBulk d + 1
  | .map entries => uptoBulkEntries entries + 1
  | .held _ => 1
def uptoBulkAll {H : Type} : List (DataW H) → Nat
  | [] => 0
  | d :: r => uptoBulk d + uptoBulkAll r
def uptoBulkEntries {H : Type} : List (Lit × DataW H) → Nat
  | [] => 0
  | x :: r => uptoBulkEntry x + uptoBulkEntries r
def uptoBulkEntry {H : Type} : Lit × DataW H → Nat
  | (.string bytes, d) => bytes.length + uptoBulk d + 1
  | (_, d) => uptoBulk d + 1
 end
def uptoSmall : (H : Type) → List (DataW H) → Bool := fun _ ds => decide (uptoBulkAll ds ≤ 1048576)
def OpenSpec.upto (s : _root_.Go.ChangeSpec) : _root_.Go.OpenSpec := { _root_.Go.OpenSpec.ofChange s with cond := some uptoSmall }

/-- 'lessorlaw17.PoolChooses', WHERE WHAT IT READS IS OF BULK AT MOST 1048576: true; the input reads as it did. -/
def poolChoosesUptoRow : OpenClaim := { program := "ytjfacdepgkdoeaa", sum := "26cc7755a67e9fb0b23f1c5fea8cdf07c6f401c7dea465f579bacac5c6d78e55", func := "lessor/lessorlaw17.PoolChooses", spec := "poolChooses", inPlace := ["math.Float64bits", "math.Float64frombits"], unfollowed := true, recurses := true, apart := false, narrowed := true }
def PoolChoosesUptoSaid : Prop := poolChoosesUptoRow.holds Try.pinned (OpenSpec.upto poolChoosesSpec)

/-- 'lessorlaw17.PoolOwn', WHERE WHAT IT READS IS OF BULK AT MOST 1048576: true; the input reads as it did. -/
def poolOwnUptoRow : OpenClaim := { program := "ytjfacdepgkdoeaa", sum := "26cc7755a67e9fb0b23f1c5fea8cdf07c6f401c7dea465f579bacac5c6d78e55", func := "lessor/lessorlaw17.PoolOwn", spec := "poolOwn", inPlace := ["math.Float64bits", "math.Float64frombits"], unfollowed := true, recurses := true, apart := false, narrowed := true }
def PoolOwnUptoSaid : Prop := poolOwnUptoRow.holds Try.pinned (OpenSpec.upto poolOwnSpec)

/-- 'lessorlaw28.AuditHolds', WHERE WHAT IT READS IS OF BULK AT MOST 1048576: true; the input reads as it did. -/
def auditHoldsUptoRow : OpenClaim := { program := "ytjfacdepgkdoeaa", sum := "26cc7755a67e9fb0b23f1c5fea8cdf07c6f401c7dea465f579bacac5c6d78e55", func := "lessor/lessorlaw28.AuditHolds", spec := "auditHolds", unfollowed := true, recurses := true, apart := false, narrowed := true }
def AuditHoldsUptoSaid : Prop := auditHoldsUptoRow.holds Try.pinned (OpenSpec.upto auditHoldsSpec)

/-- 'lessorlaw28.AuditClashes', WHERE WHAT IT READS IS OF BULK AT MOST 1048576: true; the input reads as it did. -/
def auditClashesUptoRow : OpenClaim := { program := "ytjfacdepgkdoeaa", sum := "26cc7755a67e9fb0b23f1c5fea8cdf07c6f401c7dea465f579bacac5c6d78e55", func := "lessor/lessorlaw28.AuditClashes", spec := "auditClashes", unfollowed := true, recurses := true, apart := false, narrowed := true }
def AuditClashesUptoSaid : Prop := auditClashesUptoRow.holds Try.pinned (OpenSpec.upto auditClashesSpec)

/-- 'lessorlaw01.AddrTurned', WHERE WHAT IT READS IS OF BULK AT MOST 1048576: true; the input reads as it did. -/
def addrTurnedUptoRow : OpenClaim := { program := "ytjfacdepgkdoeaa", sum := "26cc7755a67e9fb0b23f1c5fea8cdf07c6f401c7dea465f579bacac5c6d78e55", func := "lessor/lessorlaw01.AddrTurned", spec := "addrTurned", unfollowed := true, recurses := true, apart := false, narrowed := true }
def AddrTurnedUptoSaid : Prop := addrTurnedUptoRow.holds Try.pinned (OpenSpec.upto addrTurnedSpec)

/-- 'lessorlaw01.AddrPools', WHERE WHAT IT READS IS OF BULK AT MOST 1048576: true; the input reads as it did. -/
def addrPoolsUptoRow : OpenClaim := { program := "ytjfacdepgkdoeaa", sum := "26cc7755a67e9fb0b23f1c5fea8cdf07c6f401c7dea465f579bacac5c6d78e55", func := "lessor/lessorlaw01.AddrPools", spec := "addrPools", unfollowed := true, recurses := true, apart := false, narrowed := true }
def AddrPoolsUptoSaid : Prop := addrPoolsUptoRow.holds Try.pinned (OpenSpec.upto addrPoolsSpec)

/-- 'lessorlaw01.AddrIndex', WHERE WHAT IT READS IS OF BULK AT MOST 1048576: true; the input reads as it did. -/
def addrIndexUptoRow : OpenClaim := { program := "ytjfacdepgkdoeaa", sum := "26cc7755a67e9fb0b23f1c5fea8cdf07c6f401c7dea465f579bacac5c6d78e55", func := "lessor/lessorlaw01.AddrIndex", spec := "addrIndex", unfollowed := true, recurses := true, apart := false, narrowed := true }
def AddrIndexUptoSaid : Prop := addrIndexUptoRow.holds Try.pinned (OpenSpec.upto addrIndexSpec)

/-- 'lessorlaw18.OutboxOnce', WHERE WHAT IT READS IS OF BULK AT MOST 1048576: true; the input reads as it did. -/
def outboxOnceUptoRow : OpenClaim := { program := "ytjfacdepgkdoeaa", sum := "26cc7755a67e9fb0b23f1c5fea8cdf07c6f401c7dea465f579bacac5c6d78e55", func := "lessor/lessorlaw18.OutboxOnce", spec := "outboxOnce", unfollowed := true, recurses := true, apart := false, narrowed := true }
def OutboxOnceUptoSaid : Prop := outboxOnceUptoRow.holds Try.pinned (OpenSpec.upto outboxOnceSpec)

/-- 'lessorlaw18.OutboxSeen', WHERE WHAT IT READS IS OF BULK AT MOST 1048576: true; the input reads as it did. -/
def outboxSeenUptoRow : OpenClaim := { program := "ytjfacdepgkdoeaa", sum := "26cc7755a67e9fb0b23f1c5fea8cdf07c6f401c7dea465f579bacac5c6d78e55", func := "lessor/lessorlaw18.OutboxSeen", spec := "outboxSeen", unfollowed := true, recurses := true, apart := false, narrowed := true }
def OutboxSeenUptoSaid : Prop := outboxSeenUptoRow.holds Try.pinned (OpenSpec.upto outboxSeenSpec)

/-- 'lessorlaw18.OutboxLast', WHERE WHAT IT READS IS OF BULK AT MOST 1048576: true; the input reads as it did. -/
def outboxLastUptoRow : OpenClaim := { program := "ytjfacdepgkdoeaa", sum := "26cc7755a67e9fb0b23f1c5fea8cdf07c6f401c7dea465f579bacac5c6d78e55", func := "lessor/lessorlaw18.OutboxLast", spec := "outboxLast", unfollowed := true, recurses := true, apart := false, narrowed := true }
def OutboxLastUptoSaid : Prop := outboxLastUptoRow.holds Try.pinned (OpenSpec.upto outboxLastSpec)

/-- 'lessorlaw01.AddrTexts', WHERE WHAT IT READS IS OF BULK AT MOST 1048576: true; the input reads as it did. -/
def addrTextsUptoRow : OpenClaim := { program := "ytjfacdepgkdoeaa", sum := "26cc7755a67e9fb0b23f1c5fea8cdf07c6f401c7dea465f579bacac5c6d78e55", func := "lessor/lessorlaw01.AddrTexts", spec := "addrTexts", unfollowed := true, recurses := true, apart := false, narrowed := true }
def AddrTextsUptoSaid : Prop := addrTextsUptoRow.holds Try.pinned (OpenSpec.upto addrTextsSpec)

/-- 'lessorlaw01.AddrBack', WHERE WHAT IT READS IS OF BULK AT MOST 1048576: true; the input reads as it did. -/
def addrBackUptoRow : OpenClaim := { program := "ytjfacdepgkdoeaa", sum := "26cc7755a67e9fb0b23f1c5fea8cdf07c6f401c7dea465f579bacac5c6d78e55", func := "lessor/lessorlaw01.AddrBack", spec := "addrBack", unfollowed := true, recurses := true, apart := false, narrowed := true }
def AddrBackUptoSaid : Prop := addrBackUptoRow.holds Try.pinned (OpenSpec.upto addrBackSpec)

end Rows
end Go.Proofs.Ytjfacdepgkdoeaa

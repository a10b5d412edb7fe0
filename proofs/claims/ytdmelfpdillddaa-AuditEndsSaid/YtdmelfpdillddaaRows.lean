/-
  No cell of these rows narrows 'for every input' (looked for: loops, veiled, ifaces, maps, wideKeys, modest, calm, conditions, laid).
  DERIVED. THE GIVEN ROWS OF THIS SEAT. 4 by the template 'for every input the law returns true; each argument reads behind the call as it read before'; 0 by the template 'total and deterministic' (their statements: YtdmelfpdillddaaTotals.lean).
  GIVEN WITH THE SEED: the statements are not yours to turn. If you find one false, say at which input.
  Laid BY PROGRAM, IN A SANDBOX (cutbox-rows.mjs): the forced cells as the released guide's own fill.sh prints them over the translation 50d29bcd09aaa577… (all of the seat's roots in one cut). By AI agents, Wed Nov 11 2026. No macro, syntax, notation, axiom, sorry.
-/
import Derived.Test.YtdmelfpdillddaaChecked
import GoSem.Claim
import GoSem.ClaimJoined
import GoSem.ClaimMapViews
import Derived.JoinedTies
import Derived.KernelRfl
namespace Go.Proofs.Ytdmelfpdillddaa
/- THE CELL 'sum', in the pinned program and in every row, IS THE sha256 OF THE DUMP (.gsa) THAT YtdmelfpdillddaaProg.lean LOADS. Nothing in Lean hashes anything: it is a label: what it is worth is what the hold of that sum in a sandbox is worth. -/
noncomputable def Try.pinned : Pinned := { name := "ytdmelfpdillddaa", sum := "50d29bcd09aaa577365cb7c7672ee9430e73f5993449bbac8436ab3627680a85", checked := Try.checked }
namespace Rows
def none {H : Type} : Left H := { results := [], args := [] }

/-- 'lessorlaw28.AuditSpans': WHATEVER THE INPUT: true; the input reads as it did. -/
def auditSpansSpec : ChangeSpec := { name := "auditSpans", fn := fun _ => fun
  | [d1, d2, d3] => { results := [.lit (.bool true)], args := [d1, d2, d3] }
  | _ => none }
def auditSpansRow : OpenClaim := { program := "ytdmelfpdillddaa", sum := "50d29bcd09aaa577365cb7c7672ee9430e73f5993449bbac8436ab3627680a85", func := "lessor/lessorlaw28.AuditSpans", spec := "auditSpans", unfollowed := true, recurses := true, apart := false }
def AuditSpansSaid : Prop := auditSpansRow.holds Try.pinned (OpenSpec.ofChange auditSpansSpec)

/-- ITS FALSE NEIGHBOUR: 'it returns false'. Refute it at one input. -/
def auditSpansWrong : ChangeSpec := { name := "auditSpans", fn := fun _ => fun
  | [d1, d2, d3] => { results := [.lit (.bool false)], args := [d1, d2, d3] }
  | _ => none }
def AuditSpansWrongFalsely : Prop := auditSpansRow.holds Try.pinned (OpenSpec.ofChange auditSpansWrong)

/-- 'lessorlaw28.AuditApart': WHATEVER THE INPUT: true; the input reads as it did. -/
def auditApartSpec : ChangeSpec := { name := "auditApart", fn := fun _ => fun
  | [d] => { results := [.lit (.bool true)], args := [d] }
  | _ => none }
def auditApartRow : OpenClaim := { program := "ytdmelfpdillddaa", sum := "50d29bcd09aaa577365cb7c7672ee9430e73f5993449bbac8436ab3627680a85", func := "lessor/lessorlaw28.AuditApart", spec := "auditApart", unfollowed := true, recurses := true, apart := false }
def AuditApartSaid : Prop := auditApartRow.holds Try.pinned (OpenSpec.ofChange auditApartSpec)

/-- ITS FALSE NEIGHBOUR: 'it returns false'. Refute it at one input. -/
def auditApartWrong : ChangeSpec := { name := "auditApart", fn := fun _ => fun
  | [d] => { results := [.lit (.bool false)], args := [d] }
  | _ => none }
def AuditApartWrongFalsely : Prop := auditApartRow.holds Try.pinned (OpenSpec.ofChange auditApartWrong)

/-- 'lessorlaw28.AuditMore': WHATEVER THE INPUT: true; the input reads as it did. -/
def auditMoreSpec : ChangeSpec := { name := "auditMore", fn := fun _ => fun
  | [d1, d2, d3] => { results := [.lit (.bool true)], args := [d1, d2, d3] }
  | _ => none }
def auditMoreRow : OpenClaim := { program := "ytdmelfpdillddaa", sum := "50d29bcd09aaa577365cb7c7672ee9430e73f5993449bbac8436ab3627680a85", func := "lessor/lessorlaw28.AuditMore", spec := "auditMore", unfollowed := true, recurses := true, apart := false }
def AuditMoreSaid : Prop := auditMoreRow.holds Try.pinned (OpenSpec.ofChange auditMoreSpec)

/-- ITS FALSE NEIGHBOUR: 'it returns false'. Refute it at one input. -/
def auditMoreWrong : ChangeSpec := { name := "auditMore", fn := fun _ => fun
  | [d1, d2, d3] => { results := [.lit (.bool false)], args := [d1, d2, d3] }
  | _ => none }
def AuditMoreWrongFalsely : Prop := auditMoreRow.holds Try.pinned (OpenSpec.ofChange auditMoreWrong)

/-- 'lessorlaw28.AuditEnds': WHATEVER THE INPUT: true; the input reads as it did. -/
def auditEndsSpec : ChangeSpec := { name := "auditEnds", fn := fun _ => fun
  | [d1, d2, d3] => { results := [.lit (.bool true)], args := [d1, d2, d3] }
  | _ => none }
def auditEndsRow : OpenClaim := { program := "ytdmelfpdillddaa", sum := "50d29bcd09aaa577365cb7c7672ee9430e73f5993449bbac8436ab3627680a85", func := "lessor/lessorlaw28.AuditEnds", spec := "auditEnds", unfollowed := true, recurses := true, apart := false }
def AuditEndsSaid : Prop := auditEndsRow.holds Try.pinned (OpenSpec.ofChange auditEndsSpec)

/-- ITS FALSE NEIGHBOUR: 'it returns false'. Refute it at one input. -/
def auditEndsWrong : ChangeSpec := { name := "auditEnds", fn := fun _ => fun
  | [d1, d2, d3] => { results := [.lit (.bool false)], args := [d1, d2, d3] }
  | _ => none }
def AuditEndsWrongFalsely : Prop := auditEndsRow.holds Try.pinned (OpenSpec.ofChange auditEndsWrong)

/- THE SECOND FORM. 'bulk': how many values and letters a reading holds, each counted each time it is reached (what is shared counts as often as it is met; a slice's spare places count too). A statement '..UptoSaid' is the law's where the arguments, and the package variables that the reading takes, are together of bulk at most 1048576: NARROWER than '..Said'. Prove '..Said' where nothing that the law and all that it calls make is longer than what came in: it says more and counts as full. Else prove '..UptoSaid'. A law counts once. -/
mutual
def uptoBulk {H : Type} : DataW H → Nat
  | .lit (.string bytes) => bytes.length + 1
  | .lit _ => 1
  | .nil => 1
  | .ptr d => uptoBulk d + 1
  | .slice elems spare => uptoBulkAll elems + uptoBulkAll spare + 1
  | .agg parts => uptoBulkAll parts + 1
  | .iface _ d => uptoBulk d + 1
  | .map entries => uptoBulkEntries entries + 1
  | .held _ => 1
def uptoBulkAll {H : Type} : List (DataW H) → Nat
  | [] => 0
  | d :: r => uptoBulk d + uptoBulkAll r
def uptoBulkEntries {H : Type} : List (Lit × DataW H) → Nat
  | [] => 0
  | x :: r => uptoBulkEntry x + uptoBulkEntries r
def uptoBulkEntry {H : Type} : Lit × DataW H → Nat
  | (.string bytes, d) => bytes.length + uptoBulk d + 1
  | (_, d) => uptoBulk d + 1
 end
def uptoSmall : (H : Type) → List (DataW H) → Bool := fun _ ds => decide (uptoBulkAll ds ≤ 1048576)
def OpenSpec.upto (s : _root_.Go.ChangeSpec) : _root_.Go.OpenSpec := { _root_.Go.OpenSpec.ofChange s with cond := some uptoSmall }

/-- 'lessorlaw28.AuditSpans', WHERE WHAT IT READS IS OF BULK AT MOST 1048576: true; the input reads as it did. -/
def auditSpansUptoRow : OpenClaim := { program := "ytdmelfpdillddaa", sum := "50d29bcd09aaa577365cb7c7672ee9430e73f5993449bbac8436ab3627680a85", func := "lessor/lessorlaw28.AuditSpans", spec := "auditSpans", unfollowed := true, recurses := true, apart := false, narrowed := true }
def AuditSpansUptoSaid : Prop := auditSpansUptoRow.holds Try.pinned (OpenSpec.upto auditSpansSpec)

/-- 'lessorlaw28.AuditApart', WHERE WHAT IT READS IS OF BULK AT MOST 1048576: true; the input reads as it did. -/
def auditApartUptoRow : OpenClaim := { program := "ytdmelfpdillddaa", sum := "50d29bcd09aaa577365cb7c7672ee9430e73f5993449bbac8436ab3627680a85", func := "lessor/lessorlaw28.AuditApart", spec := "auditApart", unfollowed := true, recurses := true, apart := false, narrowed := true }
def AuditApartUptoSaid : Prop := auditApartUptoRow.holds Try.pinned (OpenSpec.upto auditApartSpec)

/-- 'lessorlaw28.AuditMore', WHERE WHAT IT READS IS OF BULK AT MOST 1048576: true; the input reads as it did. -/
def auditMoreUptoRow : OpenClaim := { program := "ytdmelfpdillddaa", sum := "50d29bcd09aaa577365cb7c7672ee9430e73f5993449bbac8436ab3627680a85", func := "lessor/lessorlaw28.AuditMore", spec := "auditMore", unfollowed := true, recurses := true, apart := false, narrowed := true }
def AuditMoreUptoSaid : Prop := auditMoreUptoRow.holds Try.pinned (OpenSpec.upto auditMoreSpec)

/-- 'lessorlaw28.AuditEnds', WHERE WHAT IT READS IS OF BULK AT MOST 1048576: true; the input reads as it did. -/
def auditEndsUptoRow : OpenClaim := { program := "ytdmelfpdillddaa", sum := "50d29bcd09aaa577365cb7c7672ee9430e73f5993449bbac8436ab3627680a85", func := "lessor/lessorlaw28.AuditEnds", spec := "auditEnds", unfollowed := true, recurses := true, apart := false, narrowed := true }
def AuditEndsUptoSaid : Prop := auditEndsUptoRow.holds Try.pinned (OpenSpec.upto auditEndsSpec)

end Rows
end Go.Proofs.Ytdmelfpdillddaa

/-
  No cell of these rows narrows 'for every input' (looked for: loops, veiled, ifaces, maps, wideKeys, modest, calm, conditions, laid).
  DERIVED. THE GIVEN ROWS OF THIS SEAT. 12 by the template 'for every input the law returns true; each argument reads behind the call as it read before'; 0 by the template 'total and deterministic' (their statements: YtahgaaomioffhaaTotals.lean).
  GIVEN WITH THE SEED: the statements are not yours to turn. If you find one false, say at which input.
  Laid BY PROGRAM, IN A SANDBOX (cutbox-rows.mjs): the forced cells as the released guide's own fill.sh prints them over the translation c3f228a58a9a1030… (all of the seat's roots in one cut). By AI agents, Wed Nov 11 2026. No macro, syntax, notation, axiom, sorry.
-/
import Derived.Test.YtahgaaomioffhaaChecked
import GoSem.Claim
import GoSem.ClaimJoined
import GoSem.ClaimMapViews
import Derived.JoinedTies
import Derived.KernelRfl
namespace Go.Proofs.Ytahgaaomioffhaa
/- THE CELL 'sum', in the pinned program and in every row, IS THE sha256 OF THE DUMP (.gsa) THAT YtahgaaomioffhaaProg.lean LOADS. Nothing in Lean hashes anything: it is a label: what it is worth is what the hold of that sum in a sandbox is worth. -/
noncomputable def Try.pinned : Pinned := { name := "ytahgaaomioffhaa", sum := "c3f228a58a9a1030f450cb7808b989d3b28ee86f3963069150a1dc0910ab1da2", checked := Try.checked }
namespace Rows
def none {H : Type} : Left H := { results := [], args := [] }

/-- 'lessorlaw17.PoolGives': WHATEVER THE INPUT: true; the input reads as it did. -/
def poolGivesSpec : ChangeSpec := { name := "poolGives", fn := fun _ => fun
  | [d1, d2, d3] => { results := [.lit (.bool true)], args := [d1, d2, d3] }
  | _ => none }
def poolGivesRow : OpenClaim := { program := "ytahgaaomioffhaa", sum := "c3f228a58a9a1030f450cb7808b989d3b28ee86f3963069150a1dc0910ab1da2", func := "lessor/lessorlaw17.PoolGives", spec := "poolGives", inPlace := ["math.Float64bits", "math.Float64frombits"], apart := false }
def PoolGivesSaid : Prop := poolGivesRow.holds Try.pinned (OpenSpec.ofChange poolGivesSpec)

/-- ITS FALSE NEIGHBOUR: 'it returns false'. Refute it at one input. -/
def poolGivesWrong : ChangeSpec := { name := "poolGives", fn := fun _ => fun
  | [d1, d2, d3] => { results := [.lit (.bool false)], args := [d1, d2, d3] }
  | _ => none }
def PoolGivesWrongFalsely : Prop := poolGivesRow.holds Try.pinned (OpenSpec.ofChange poolGivesWrong)

/-- 'lessorlaw17.PoolOne': WHATEVER THE INPUT: true; the input reads as it did. -/
def poolOneSpec : ChangeSpec := { name := "poolOne", fn := fun _ => fun
  | [d1, d2] => { results := [.lit (.bool true)], args := [d1, d2] }
  | _ => none }
def poolOneRow : OpenClaim := { program := "ytahgaaomioffhaa", sum := "c3f228a58a9a1030f450cb7808b989d3b28ee86f3963069150a1dc0910ab1da2", func := "lessor/lessorlaw17.PoolOne", spec := "poolOne", inPlace := ["math.Float64bits", "math.Float64frombits"], apart := false }
def PoolOneSaid : Prop := poolOneRow.holds Try.pinned (OpenSpec.ofChange poolOneSpec)

/-- ITS FALSE NEIGHBOUR: 'it returns false'. Refute it at one input. -/
def poolOneWrong : ChangeSpec := { name := "poolOne", fn := fun _ => fun
  | [d1, d2] => { results := [.lit (.bool false)], args := [d1, d2] }
  | _ => none }
def PoolOneWrongFalsely : Prop := poolOneRow.holds Try.pinned (OpenSpec.ofChange poolOneWrong)

/-- 'lessorlaw04.MessageEncodes': WHATEVER THE INPUT: true; the input reads as it did. -/
def messageEncodesSpec : ChangeSpec := { name := "messageEncodes", fn := fun _ => fun
  | [d] => { results := [.lit (.bool true)], args := [d] }
  | _ => none }
def messageEncodesRow : OpenClaim := { program := "ytahgaaomioffhaa", sum := "c3f228a58a9a1030f450cb7808b989d3b28ee86f3963069150a1dc0910ab1da2", func := "lessor/lessorlaw04.MessageEncodes", spec := "messageEncodes", unfollowed := true, recurses := true, apart := false }
def MessageEncodesSaid : Prop := messageEncodesRow.holds Try.pinned (OpenSpec.ofChange messageEncodesSpec)

/-- ITS FALSE NEIGHBOUR: 'it returns false'. Refute it at one input. -/
def messageEncodesWrong : ChangeSpec := { name := "messageEncodes", fn := fun _ => fun
  | [d] => { results := [.lit (.bool false)], args := [d] }
  | _ => none }
def MessageEncodesWrongFalsely : Prop := messageEncodesRow.holds Try.pinned (OpenSpec.ofChange messageEncodesWrong)

/-- 'lessorlaw04.MessageFields': WHATEVER THE INPUT: true; the input reads as it did. -/
def messageFieldsSpec : ChangeSpec := { name := "messageFields", fn := fun _ => fun
  | [d1, d2] => { results := [.lit (.bool true)], args := [d1, d2] }
  | _ => none }
def messageFieldsRow : OpenClaim := { program := "ytahgaaomioffhaa", sum := "c3f228a58a9a1030f450cb7808b989d3b28ee86f3963069150a1dc0910ab1da2", func := "lessor/lessorlaw04.MessageFields", spec := "messageFields", unfollowed := true, recurses := true, apart := false }
def MessageFieldsSaid : Prop := messageFieldsRow.holds Try.pinned (OpenSpec.ofChange messageFieldsSpec)

/-- ITS FALSE NEIGHBOUR: 'it returns false'. Refute it at one input. -/
def messageFieldsWrong : ChangeSpec := { name := "messageFields", fn := fun _ => fun
  | [d1, d2] => { results := [.lit (.bool false)], args := [d1, d2] }
  | _ => none }
def MessageFieldsWrongFalsely : Prop := messageFieldsRow.holds Try.pinned (OpenSpec.ofChange messageFieldsWrong)

/-- 'lessorlaw04.MessageSizes': WHATEVER THE INPUT: true; the input reads as it did. -/
def messageSizesSpec : ChangeSpec := { name := "messageSizes", fn := fun _ => fun
  | [d] => { results := [.lit (.bool true)], args := [d] }
  | _ => none }
def messageSizesRow : OpenClaim := { program := "ytahgaaomioffhaa", sum := "c3f228a58a9a1030f450cb7808b989d3b28ee86f3963069150a1dc0910ab1da2", func := "lessor/lessorlaw04.MessageSizes", spec := "messageSizes", unfollowed := true, recurses := true, apart := false }
def MessageSizesSaid : Prop := messageSizesRow.holds Try.pinned (OpenSpec.ofChange messageSizesSpec)

/-- ITS FALSE NEIGHBOUR: 'it returns false'. Refute it at one input. -/
def messageSizesWrong : ChangeSpec := { name := "messageSizes", fn := fun _ => fun
  | [d] => { results := [.lit (.bool false)], args := [d] }
  | _ => none }
def MessageSizesWrongFalsely : Prop := messageSizesRow.holds Try.pinned (OpenSpec.ofChange messageSizesWrong)

/-- 'lessorlaw19.ContactScripts': WHATEVER THE INPUT: true; the input reads as it did. -/
def contactScriptsSpec : ChangeSpec := { name := "contactScripts", fn := fun _ => fun
  | [d1, d2] => { results := [.lit (.bool true)], args := [d1, d2] }
  | _ => none }
def contactScriptsRow : OpenClaim := { program := "ytahgaaomioffhaa", sum := "c3f228a58a9a1030f450cb7808b989d3b28ee86f3963069150a1dc0910ab1da2", func := "lessor/lessorlaw19.ContactScripts", spec := "contactScripts", unfollowed := true, recurses := true, apart := false }
def ContactScriptsSaid : Prop := contactScriptsRow.holds Try.pinned (OpenSpec.ofChange contactScriptsSpec)

/-- ITS FALSE NEIGHBOUR: 'it returns false'. Refute it at one input. -/
def contactScriptsWrong : ChangeSpec := { name := "contactScripts", fn := fun _ => fun
  | [d1, d2] => { results := [.lit (.bool false)], args := [d1, d2] }
  | _ => none }
def ContactScriptsWrongFalsely : Prop := contactScriptsRow.holds Try.pinned (OpenSpec.ofChange contactScriptsWrong)

/-- 'lessorlaw19.ContactLives': WHATEVER THE INPUT: true; the input reads as it did. -/
def contactLivesSpec : ChangeSpec := { name := "contactLives", fn := fun _ => fun
  | [d] => { results := [.lit (.bool true)], args := [d] }
  | _ => none }
def contactLivesRow : OpenClaim := { program := "ytahgaaomioffhaa", sum := "c3f228a58a9a1030f450cb7808b989d3b28ee86f3963069150a1dc0910ab1da2", func := "lessor/lessorlaw19.ContactLives", spec := "contactLives", unfollowed := true, recurses := true, apart := false }
def ContactLivesSaid : Prop := contactLivesRow.holds Try.pinned (OpenSpec.ofChange contactLivesSpec)

/-- ITS FALSE NEIGHBOUR: 'it returns false'. Refute it at one input. -/
def contactLivesWrong : ChangeSpec := { name := "contactLives", fn := fun _ => fun
  | [d] => { results := [.lit (.bool false)], args := [d] }
  | _ => none }
def ContactLivesWrongFalsely : Prop := contactLivesRow.holds Try.pinned (OpenSpec.ofChange contactLivesWrong)

/-- 'lessorlaw19.ContactMeets': WHATEVER THE INPUT: true; the input reads as it did. -/
def contactMeetsSpec : ChangeSpec := { name := "contactMeets", fn := fun _ => fun
  | [d1, d2] => { results := [.lit (.bool true)], args := [d1, d2] }
  | _ => none }
def contactMeetsRow : OpenClaim := { program := "ytahgaaomioffhaa", sum := "c3f228a58a9a1030f450cb7808b989d3b28ee86f3963069150a1dc0910ab1da2", func := "lessor/lessorlaw19.ContactMeets", spec := "contactMeets", unfollowed := true, recurses := true, apart := false }
def ContactMeetsSaid : Prop := contactMeetsRow.holds Try.pinned (OpenSpec.ofChange contactMeetsSpec)

/-- ITS FALSE NEIGHBOUR: 'it returns false'. Refute it at one input. -/
def contactMeetsWrong : ChangeSpec := { name := "contactMeets", fn := fun _ => fun
  | [d1, d2] => { results := [.lit (.bool false)], args := [d1, d2] }
  | _ => none }
def ContactMeetsWrongFalsely : Prop := contactMeetsRow.holds Try.pinned (OpenSpec.ofChange contactMeetsWrong)

/-- 'lessorlaw19.ContactMarks': WHATEVER THE INPUT: true; the input reads as it did. -/
def contactMarksSpec : ChangeSpec := { name := "contactMarks", fn := fun _ => fun
  | [d1, d2] => { results := [.lit (.bool true)], args := [d1, d2] }
  | _ => none }
def contactMarksRow : OpenClaim := { program := "ytahgaaomioffhaa", sum := "c3f228a58a9a1030f450cb7808b989d3b28ee86f3963069150a1dc0910ab1da2", func := "lessor/lessorlaw19.ContactMarks", spec := "contactMarks", unfollowed := true, recurses := true, apart := false }
def ContactMarksSaid : Prop := contactMarksRow.holds Try.pinned (OpenSpec.ofChange contactMarksSpec)

/-- ITS FALSE NEIGHBOUR: 'it returns false'. Refute it at one input. -/
def contactMarksWrong : ChangeSpec := { name := "contactMarks", fn := fun _ => fun
  | [d1, d2] => { results := [.lit (.bool false)], args := [d1, d2] }
  | _ => none }
def ContactMarksWrongFalsely : Prop := contactMarksRow.holds Try.pinned (OpenSpec.ofChange contactMarksWrong)

/-- 'lessorlaw04.MessageDecodes': WHATEVER THE INPUT: true; the input reads as it did. -/
def messageDecodesSpec : ChangeSpec := { name := "messageDecodes", fn := fun _ => fun
  | [d] => { results := [.lit (.bool true)], args := [d] }
  | _ => none }
def messageDecodesRow : OpenClaim := { program := "ytahgaaomioffhaa", sum := "c3f228a58a9a1030f450cb7808b989d3b28ee86f3963069150a1dc0910ab1da2", func := "lessor/lessorlaw04.MessageDecodes", spec := "messageDecodes", unfollowed := true, recurses := true, apart := false }
def MessageDecodesSaid : Prop := messageDecodesRow.holds Try.pinned (OpenSpec.ofChange messageDecodesSpec)

/-- ITS FALSE NEIGHBOUR: 'it returns false'. Refute it at one input. -/
def messageDecodesWrong : ChangeSpec := { name := "messageDecodes", fn := fun _ => fun
  | [d] => { results := [.lit (.bool false)], args := [d] }
  | _ => none }
def MessageDecodesWrongFalsely : Prop := messageDecodesRow.holds Try.pinned (OpenSpec.ofChange messageDecodesWrong)

/-- 'lessorlaw04.MessageBack': WHATEVER THE INPUT: true; the input reads as it did. -/
def messageBackSpec : ChangeSpec := { name := "messageBack", fn := fun _ => fun
  | [d1, d2] => { results := [.lit (.bool true)], args := [d1, d2] }
  | _ => none }
def messageBackRow : OpenClaim := { program := "ytahgaaomioffhaa", sum := "c3f228a58a9a1030f450cb7808b989d3b28ee86f3963069150a1dc0910ab1da2", func := "lessor/lessorlaw04.MessageBack", spec := "messageBack", unfollowed := true, recurses := true, apart := false }
def MessageBackSaid : Prop := messageBackRow.holds Try.pinned (OpenSpec.ofChange messageBackSpec)

/-- ITS FALSE NEIGHBOUR: 'it returns false'. Refute it at one input. -/
def messageBackWrong : ChangeSpec := { name := "messageBack", fn := fun _ => fun
  | [d1, d2] => { results := [.lit (.bool false)], args := [d1, d2] }
  | _ => none }
def MessageBackWrongFalsely : Prop := messageBackRow.holds Try.pinned (OpenSpec.ofChange messageBackWrong)

/-- 'lessorlaw04.MessageOnce': WHATEVER THE INPUT: true; the input reads as it did. -/
def messageOnceSpec : ChangeSpec := { name := "messageOnce", fn := fun _ => fun
  | [d1, d2, d3] => { results := [.lit (.bool true)], args := [d1, d2, d3] }
  | _ => none }
def messageOnceRow : OpenClaim := { program := "ytahgaaomioffhaa", sum := "c3f228a58a9a1030f450cb7808b989d3b28ee86f3963069150a1dc0910ab1da2", func := "lessor/lessorlaw04.MessageOnce", spec := "messageOnce", unfollowed := true, recurses := true, apart := false }
def MessageOnceSaid : Prop := messageOnceRow.holds Try.pinned (OpenSpec.ofChange messageOnceSpec)

/-- ITS FALSE NEIGHBOUR: 'it returns false'. Refute it at one input. -/
def messageOnceWrong : ChangeSpec := { name := "messageOnce", fn := fun _ => fun
  | [d1, d2, d3] => { results := [.lit (.bool false)], args := [d1, d2, d3] }
  | _ => none }
def MessageOnceWrongFalsely : Prop := messageOnceRow.holds Try.pinned (OpenSpec.ofChange messageOnceWrong)

/- THE SECOND FORM. 'bulk': how many values and letters a reading holds, each counted each time it is reached (what is shared counts as often as it is met; a slice's spare places count too). A statement '..UptoSaid' is the law's where the arguments, and the package variables that the reading takes, are together of bulk at most 1048576: NARROWER than '..Said'. Prove '..Said' where nothing that the law and all that it calls make is longer than what came in: it says more and counts as full. Else prove '..UptoSaid'. A law counts once. -/
mutual
def uptoBulk {H : Type} : DataW H → Nat
  | .lit (.string bytes) => bytes.length + 1
  | .lit _ => 1
  | .nil => 1
  | .ptr d => uptoBulk d + 1
  | .slice elems spare => uptoBulkAll elems + uptoBulkAll spare + 1
  | .agg parts => uptoBulkAll parts + 1
  | .iface _ d => uptoBulk d + 1
  | .map entries => uptoBulkEntries entries + 1
  | .held _ => 1
def uptoBulkAll {H : Type} : List (DataW H) → Nat
  | [] => 0
  | d :: r => uptoBulk d + uptoBulkAll r
def uptoBulkEntries {H : Type} : List (Lit × DataW H) → Nat
  | [] => 0
  | x :: r => uptoBulkEntry x + uptoBulkEntries r
def uptoBulkEntry {H : Type} : Lit × DataW H → Nat
  | (.string bytes, d) => bytes.length + uptoBulk d + 1
  | (_, d) => uptoBulk d + 1
 end
def uptoSmall : (H : Type) → List (DataW H) → Bool := fun _ ds => decide (uptoBulkAll ds ≤ 1048576)
def OpenSpec.upto (s : _root_.Go.ChangeSpec) : _root_.Go.OpenSpec := { _root_.Go.OpenSpec.ofChange s with cond := some uptoSmall }

/-- 'lessorlaw17.PoolGives', WHERE WHAT IT READS IS OF BULK AT MOST 1048576: true; the input reads as it did. -/
def poolGivesUptoRow : OpenClaim := { program := "ytahgaaomioffhaa", sum := "c3f228a58a9a1030f450cb7808b989d3b28ee86f3963069150a1dc0910ab1da2", func := "lessor/lessorlaw17.PoolGives", spec := "poolGives", inPlace := ["math.Float64bits", "math.Float64frombits"], apart := false, narrowed := true }
def PoolGivesUptoSaid : Prop := poolGivesUptoRow.holds Try.pinned (OpenSpec.upto poolGivesSpec)

/-- 'lessorlaw17.PoolOne', WHERE WHAT IT READS IS OF BULK AT MOST 1048576: true; the input reads as it did. -/
def poolOneUptoRow : OpenClaim := { program := "ytahgaaomioffhaa", sum := "c3f228a58a9a1030f450cb7808b989d3b28ee86f3963069150a1dc0910ab1da2", func := "lessor/lessorlaw17.PoolOne", spec := "poolOne", inPlace := ["math.Float64bits", "math.Float64frombits"], apart := false, narrowed := true }
def PoolOneUptoSaid : Prop := poolOneUptoRow.holds Try.pinned (OpenSpec.upto poolOneSpec)

/-- 'lessorlaw04.MessageEncodes', WHERE WHAT IT READS IS OF BULK AT MOST 1048576: true; the input reads as it did. -/
def messageEncodesUptoRow : OpenClaim := { program := "ytahgaaomioffhaa", sum := "c3f228a58a9a1030f450cb7808b989d3b28ee86f3963069150a1dc0910ab1da2", func := "lessor/lessorlaw04.MessageEncodes", spec := "messageEncodes", unfollowed := true, recurses := true, apart := false, narrowed := true }
def MessageEncodesUptoSaid : Prop := messageEncodesUptoRow.holds Try.pinned (OpenSpec.upto messageEncodesSpec)

/-- 'lessorlaw04.MessageFields', WHERE WHAT IT READS IS OF BULK AT MOST 1048576: true; the input reads as it did. -/
def messageFieldsUptoRow : OpenClaim := { program := "ytahgaaomioffhaa", sum := "c3f228a58a9a1030f450cb7808b989d3b28ee86f3963069150a1dc0910ab1da2", func := "lessor/lessorlaw04.MessageFields", spec := "messageFields", unfollowed := true, recurses := true, apart := false, narrowed := true }
def MessageFieldsUptoSaid : Prop := messageFieldsUptoRow.holds Try.pinned (OpenSpec.upto messageFieldsSpec)

/-- 'lessorlaw04.MessageSizes', WHERE WHAT IT READS IS OF BULK AT MOST 1048576: true; the input reads as it did. -/
def messageSizesUptoRow : OpenClaim := { program := "ytahgaaomioffhaa", sum := "c3f228a58a9a1030f450cb7808b989d3b28ee86f3963069150a1dc0910ab1da2", func := "lessor/lessorlaw04.MessageSizes", spec := "messageSizes", unfollowed := true, recurses := true, apart := false, narrowed := true }
def MessageSizesUptoSaid : Prop := messageSizesUptoRow.holds Try.pinned (OpenSpec.upto messageSizesSpec)

/-- 'lessorlaw19.ContactScripts', WHERE WHAT IT READS IS OF BULK AT MOST 1048576: true; the input reads as it did. -/
def contactScriptsUptoRow : OpenClaim := { program := "ytahgaaomioffhaa", sum := "c3f228a58a9a1030f450cb7808b989d3b28ee86f3963069150a1dc0910ab1da2", func := "lessor/lessorlaw19.ContactScripts", spec := "contactScripts", unfollowed := true, recurses := true, apart := false, narrowed := true }
def ContactScriptsUptoSaid : Prop := contactScriptsUptoRow.holds Try.pinned (OpenSpec.upto contactScriptsSpec)

/-- 'lessorlaw19.ContactLives', WHERE WHAT IT READS IS OF BULK AT MOST 1048576: true; the input reads as it did. -/
def contactLivesUptoRow : OpenClaim := { program := "ytahgaaomioffhaa", sum := "c3f228a58a9a1030f450cb7808b989d3b28ee86f3963069150a1dc0910ab1da2", func := "lessor/lessorlaw19.ContactLives", spec := "contactLives", unfollowed := true, recurses := true, apart := false, narrowed := true }
def ContactLivesUptoSaid : Prop := contactLivesUptoRow.holds Try.pinned (OpenSpec.upto contactLivesSpec)

/-- 'lessorlaw19.ContactMeets', WHERE WHAT IT READS IS OF BULK AT MOST 1048576: true; the input reads as it did. -/
def contactMeetsUptoRow : OpenClaim := { program := "ytahgaaomioffhaa", sum := "c3f228a58a9a1030f450cb7808b989d3b28ee86f3963069150a1dc0910ab1da2", func := "lessor/lessorlaw19.ContactMeets", spec := "contactMeets", unfollowed := true, recurses := true, apart := false, narrowed := true }
def ContactMeetsUptoSaid : Prop := contactMeetsUptoRow.holds Try.pinned (OpenSpec.upto contactMeetsSpec)

/-- 'lessorlaw19.ContactMarks', WHERE WHAT IT READS IS OF BULK AT MOST 1048576: true; the input reads as it did. -/
def contactMarksUptoRow : OpenClaim := { program := "ytahgaaomioffhaa", sum := "c3f228a58a9a1030f450cb7808b989d3b28ee86f3963069150a1dc0910ab1da2", func := "lessor/lessorlaw19.ContactMarks", spec := "contactMarks", unfollowed := true, recurses := true, apart := false, narrowed := true }
def ContactMarksUptoSaid : Prop := contactMarksUptoRow.holds Try.pinned (OpenSpec.upto contactMarksSpec)

/-- 'lessorlaw04.MessageDecodes', WHERE WHAT IT READS IS OF BULK AT MOST 1048576: true; the input reads as it did. -/
def messageDecodesUptoRow : OpenClaim := { program := "ytahgaaomioffhaa", sum := "c3f228a58a9a1030f450cb7808b989d3b28ee86f3963069150a1dc0910ab1da2", func := "lessor/lessorlaw04.MessageDecodes", spec := "messageDecodes", unfollowed := true, recurses := true, apart := false, narrowed := true }
def MessageDecodesUptoSaid : Prop := messageDecodesUptoRow.holds Try.pinned (OpenSpec.upto messageDecodesSpec)

/-- 'lessorlaw04.MessageBack', WHERE WHAT IT READS IS OF BULK AT MOST 1048576: true; the input reads as it did. -/
def messageBackUptoRow : OpenClaim := { program := "ytahgaaomioffhaa", sum := "c3f228a58a9a1030f450cb7808b989d3b28ee86f3963069150a1dc0910ab1da2", func := "lessor/lessorlaw04.MessageBack", spec := "messageBack", unfollowed := true, recurses := true, apart := false, narrowed := true }
def MessageBackUptoSaid : Prop := messageBackUptoRow.holds Try.pinned (OpenSpec.upto messageBackSpec)

/-- 'lessorlaw04.MessageOnce', WHERE WHAT IT READS IS OF BULK AT MOST 1048576: true; the input reads as it did. -/
def messageOnceUptoRow : OpenClaim := { program := "ytahgaaomioffhaa", sum := "c3f228a58a9a1030f450cb7808b989d3b28ee86f3963069150a1dc0910ab1da2", func := "lessor/lessorlaw04.MessageOnce", spec := "messageOnce", unfollowed := true, recurses := true, apart := false, narrowed := true }
def MessageOnceUptoSaid : Prop := messageOnceUptoRow.holds Try.pinned (OpenSpec.upto messageOnceSpec)

end Rows
end Go.Proofs.Ytahgaaomioffhaa

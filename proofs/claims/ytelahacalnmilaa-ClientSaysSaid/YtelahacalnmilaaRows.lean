/-
  No cell of these rows narrows 'for every input' (looked for: loops, veiled, ifaces, maps, wideKeys, modest, calm, conditions, laid).
  DERIVED. THE GIVEN ROWS OF THIS SEAT. 4 by the template 'for every input the law returns true; each argument reads behind the call as it read before'; 0 by the template 'total and deterministic' (their statements: YtelahacalnmilaaTotals.lean).
  GIVEN WITH THE SEED: the statements are not yours to turn. If you find one false, say at which input.
  Laid BY PROGRAM, IN A SANDBOX (cutbox-rows.mjs): the forced cells as the released guide's own fill.sh prints them over the translation f453fbdfc12d65e6… (all of the seat's roots in one cut). By AI agents, Wed Nov 11 2026. No macro, syntax, notation, axiom, sorry.
-/
import Derived.Test.YtelahacalnmilaaChecked
import GoSem.Claim
import GoSem.ClaimJoined
import GoSem.ClaimMapViews
import Derived.JoinedTies
import Derived.KernelRfl
namespace Go.Proofs.Ytelahacalnmilaa
/- THE CELL 'sum', in the pinned program and in every row, IS THE sha256 OF THE DUMP (.gsa) THAT YtelahacalnmilaaProg.lean LOADS. Nothing in Lean hashes anything: it is a label: what it is worth is what the hold of that sum in a sandbox is worth. -/
noncomputable def Try.pinned : Pinned := { name := "ytelahacalnmilaa", sum := "f453fbdfc12d65e6b4f4b82b57d83d332f839832192de11831304b6dd0e21e8d", checked := Try.checked }
namespace Rows
def none {H : Type} : Left H := { results := [], args := [] }

/-- 'lessorlaw24.ClientScripts': WHATEVER THE INPUT: true; the input reads as it did. -/
def clientScriptsSpec : ChangeSpec := { name := "clientScripts", fn := fun _ => fun
  | [d1, d2, d3] => { results := [.lit (.bool true)], args := [d1, d2, d3] }
  | _ => none }
def clientScriptsRow : OpenClaim := { program := "ytelahacalnmilaa", sum := "f453fbdfc12d65e6b4f4b82b57d83d332f839832192de11831304b6dd0e21e8d", func := "lessor/lessorlaw24.ClientScripts", spec := "clientScripts", unfollowed := true, recurses := true, apart := false }
def ClientScriptsSaid : Prop := clientScriptsRow.holds Try.pinned (OpenSpec.ofChange clientScriptsSpec)

/-- ITS FALSE NEIGHBOUR: 'it returns false'. Refute it at one input. -/
def clientScriptsWrong : ChangeSpec := { name := "clientScripts", fn := fun _ => fun
  | [d1, d2, d3] => { results := [.lit (.bool false)], args := [d1, d2, d3] }
  | _ => none }
def ClientScriptsWrongFalsely : Prop := clientScriptsRow.holds Try.pinned (OpenSpec.ofChange clientScriptsWrong)

/-- 'lessorlaw24.ClientHolds': WHATEVER THE INPUT: true; the input reads as it did. -/
def clientHoldsSpec : ChangeSpec := { name := "clientHolds", fn := fun _ => fun
  | [d] => { results := [.lit (.bool true)], args := [d] }
  | _ => none }
def clientHoldsRow : OpenClaim := { program := "ytelahacalnmilaa", sum := "f453fbdfc12d65e6b4f4b82b57d83d332f839832192de11831304b6dd0e21e8d", func := "lessor/lessorlaw24.ClientHolds", spec := "clientHolds", unfollowed := true, recurses := true, apart := false }
def ClientHoldsSaid : Prop := clientHoldsRow.holds Try.pinned (OpenSpec.ofChange clientHoldsSpec)

/-- ITS FALSE NEIGHBOUR: 'it returns false'. Refute it at one input. -/
def clientHoldsWrong : ChangeSpec := { name := "clientHolds", fn := fun _ => fun
  | [d] => { results := [.lit (.bool false)], args := [d] }
  | _ => none }
def ClientHoldsWrongFalsely : Prop := clientHoldsRow.holds Try.pinned (OpenSpec.ofChange clientHoldsWrong)

/-- 'lessorlaw24.ClientSays': WHATEVER THE INPUT: true; the input reads as it did. -/
def clientSaysSpec : ChangeSpec := { name := "clientSays", fn := fun _ => fun
  | [d1, d2] => { results := [.lit (.bool true)], args := [d1, d2] }
  | _ => none }
def clientSaysRow : OpenClaim := { program := "ytelahacalnmilaa", sum := "f453fbdfc12d65e6b4f4b82b57d83d332f839832192de11831304b6dd0e21e8d", func := "lessor/lessorlaw24.ClientSays", spec := "clientSays", unfollowed := true, recurses := true, apart := false }
def ClientSaysSaid : Prop := clientSaysRow.holds Try.pinned (OpenSpec.ofChange clientSaysSpec)

/-- ITS FALSE NEIGHBOUR: 'it returns false'. Refute it at one input. -/
def clientSaysWrong : ChangeSpec := { name := "clientSays", fn := fun _ => fun
  | [d1, d2] => { results := [.lit (.bool false)], args := [d1, d2] }
  | _ => none }
def ClientSaysWrongFalsely : Prop := clientSaysRow.holds Try.pinned (OpenSpec.ofChange clientSaysWrong)

/-- 'lessorlaw24.ClientIdles': WHATEVER THE INPUT: true; the input reads as it did. -/
def clientIdlesSpec : ChangeSpec := { name := "clientIdles", fn := fun _ => fun
  | [d1, d2] => { results := [.lit (.bool true)], args := [d1, d2] }
  | _ => none }
def clientIdlesRow : OpenClaim := { program := "ytelahacalnmilaa", sum := "f453fbdfc12d65e6b4f4b82b57d83d332f839832192de11831304b6dd0e21e8d", func := "lessor/lessorlaw24.ClientIdles", spec := "clientIdles", unfollowed := true, recurses := true, apart := false }
def ClientIdlesSaid : Prop := clientIdlesRow.holds Try.pinned (OpenSpec.ofChange clientIdlesSpec)

/-- ITS FALSE NEIGHBOUR: 'it returns false'. Refute it at one input. -/
def clientIdlesWrong : ChangeSpec := { name := "clientIdles", fn := fun _ => fun
  | [d1, d2] => { results := [.lit (.bool false)], args := [d1, d2] }
  | _ => none }
def ClientIdlesWrongFalsely : Prop := clientIdlesRow.holds Try.pinned (OpenSpec.ofChange clientIdlesWrong)

/- THE SECOND FORM. 'bulk': how many values and letters a reading holds, each counted each time it is reached (what is shared counts as often as it is met; a slice's spare places count too). A statement '..UptoSaid' is the law's where the arguments, and the package variables that the reading takes, are together of bulk at most 1048576: NARROWER than '..Said'. Prove '..Said' where nothing that the law and all that it calls make is longer than what came in: it says more and counts as full. Else prove '..UptoSaid'. A law counts once. -/
mutual
def uptoBulk {H : Type} : DataW H → Nat
  | .lit (.string bytes) => bytes.length + 1
  | .lit _ => 1
  | .nil => 1
  | .ptr d => uptoBulk d + 1
  | .slice elems spare => uptoBulkAll elems + uptoBulkAll spare + 1
  | .agg parts => uptoBulkAll parts + 1
  | .iface _ d => uptoBulk d + 1
  | .map entries => uptoBulkEntries entries + 1
  | .held _ => 1
def uptoBulkAll {H : Type} : List (DataW H) → Nat
  | [] => 0
  | d :: r => uptoBulk d + uptoBulkAll r
def uptoBulkEntries {H : Type} : List (Lit × DataW H) → Nat
  | [] => 0
  | x :: r => uptoBulkEntry x + uptoBulkEntries r
def uptoBulkEntry {H : Type} : Lit × DataW H → Nat
  | (.string bytes, d) => bytes.length + uptoBulk d + 1
  | (_, d) => uptoBulk d + 1
 end
def uptoSmall : (H : Type) → List (DataW H) → Bool := fun _ ds => decide (uptoBulkAll ds ≤ 1048576)
def OpenSpec.upto (s : _root_.Go.ChangeSpec) : _root_.Go.OpenSpec := { _root_.Go.OpenSpec.ofChange s with cond := some uptoSmall }

/-- 'lessorlaw24.ClientScripts', WHERE WHAT IT READS IS OF BULK AT MOST 1048576: true; the input reads as it did. -/
def clientScriptsUptoRow : OpenClaim := { program := "ytelahacalnmilaa", sum := "f453fbdfc12d65e6b4f4b82b57d83d332f839832192de11831304b6dd0e21e8d", func := "lessor/lessorlaw24.ClientScripts", spec := "clientScripts", unfollowed := true, recurses := true, apart := false, narrowed := true }
def ClientScriptsUptoSaid : Prop := clientScriptsUptoRow.holds Try.pinned (OpenSpec.upto clientScriptsSpec)

/-- 'lessorlaw24.ClientHolds', WHERE WHAT IT READS IS OF BULK AT MOST 1048576: true; the input reads as it did. -/
def clientHoldsUptoRow : OpenClaim := { program := "ytelahacalnmilaa", sum := "f453fbdfc12d65e6b4f4b82b57d83d332f839832192de11831304b6dd0e21e8d", func := "lessor/lessorlaw24.ClientHolds", spec := "clientHolds", unfollowed := true, recurses := true, apart := false, narrowed := true }
def ClientHoldsUptoSaid : Prop := clientHoldsUptoRow.holds Try.pinned (OpenSpec.upto clientHoldsSpec)

/-- 'lessorlaw24.ClientSays', WHERE WHAT IT READS IS OF BULK AT MOST 1048576: true; the input reads as it did. -/
def clientSaysUptoRow : OpenClaim := { program := "ytelahacalnmilaa", sum := "f453fbdfc12d65e6b4f4b82b57d83d332f839832192de11831304b6dd0e21e8d", func := "lessor/lessorlaw24.ClientSays", spec := "clientSays", unfollowed := true, recurses := true, apart := false, narrowed := true }
def ClientSaysUptoSaid : Prop := clientSaysUptoRow.holds Try.pinned (OpenSpec.upto clientSaysSpec)

/-- 'lessorlaw24.ClientIdles', WHERE WHAT IT READS IS OF BULK AT MOST 1048576: true; the input reads as it did. -/
def clientIdlesUptoRow : OpenClaim := { program := "ytelahacalnmilaa", sum := "f453fbdfc12d65e6b4f4b82b57d83d332f839832192de11831304b6dd0e21e8d", func := "lessor/lessorlaw24.ClientIdles", spec := "clientIdles", unfollowed := true, recurses := true, apart := false, narrowed := true }
def ClientIdlesUptoSaid : Prop := clientIdlesUptoRow.holds Try.pinned (OpenSpec.upto clientIdlesSpec)

end Rows
end Go.Proofs.Ytelahacalnmilaa

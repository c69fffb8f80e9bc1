/-
  No cell of these rows narrows 'for every input' (looked for: loops, veiled, ifaces, maps, wideKeys, modest, calm, conditions, laid).
  DERIVED. THE GIVEN ROWS OF THIS SEAT. 5 by the template 'for every input the law returns true; each argument reads behind the call as it read before'; 0 by the template 'total and deterministic' (their statements: YtciaccjambdmkaaTotals.lean).
  GIVEN WITH THE SEED: the statements are not yours to turn. If you find one false, say at which input.
  Laid BY PROGRAM, IN A SANDBOX (cutbox-rows.mjs): the forced cells as the released guide's own fill.sh prints them over the translation eb064dfe10d50057… (all of the seat's roots in one cut). By AI agents, Wed Nov 11 2026. No macro, syntax, notation, axiom, sorry.
-/
import Derived.Test.YtciaccjambdmkaaChecked
import GoSem.Claim
import GoSem.ClaimJoined
import GoSem.ClaimMapViews
import Derived.JoinedTies
import Derived.KernelRfl
namespace Go.Proofs.Ytciaccjambdmkaa
/- THE CELL 'sum', in the pinned program and in every row, IS THE sha256 OF THE DUMP (.gsa) THAT YtciaccjambdmkaaProg.lean LOADS. Nothing in Lean hashes anything: it is a label: what it is worth is what the hold of that sum in a sandbox is worth. -/
noncomputable def Try.pinned : Pinned := { name := "ytciaccjambdmkaa", sum := "eb064dfe10d500570985b5aecd59cf7a50a5349a5becda0d997493444bd91102", checked := Try.checked }
namespace Rows
def none {H : Type} : Left H := { results := [], args := [] }

/-- 'skylightlaw13.ScanSums': WHATEVER THE INPUT: true; the input reads as it did. -/
def scanSumsSpec : ChangeSpec := { name := "scanSums", fn := fun _ => fun
  | [d1, d2, d3] => { results := [.lit (.bool true)], args := [d1, d2, d3] }
  | _ => none }
def scanSumsRow : OpenClaim := { program := "ytciaccjambdmkaa", sum := "eb064dfe10d500570985b5aecd59cf7a50a5349a5becda0d997493444bd91102", func := "skylight/skylightlaw13.ScanSums", spec := "scanSums", unfollowed := true, recurses := true, apart := false }
def ScanSumsSaid : Prop := scanSumsRow.holds Try.pinned (OpenSpec.ofChange scanSumsSpec)

/-- ITS FALSE NEIGHBOUR: 'it returns false'. Refute it at one input. -/
def scanSumsWrong : ChangeSpec := { name := "scanSums", fn := fun _ => fun
  | [d1, d2, d3] => { results := [.lit (.bool false)], args := [d1, d2, d3] }
  | _ => none }
def ScanSumsWrongFalsely : Prop := scanSumsRow.holds Try.pinned (OpenSpec.ofChange scanSumsWrong)

/-- 'skylightlaw13.ScanKeys': WHATEVER THE INPUT: true; the input reads as it did. -/
def scanKeysSpec : ChangeSpec := { name := "scanKeys", fn := fun _ => fun
  | [d1, d2, d3] => { results := [.lit (.bool true)], args := [d1, d2, d3] }
  | _ => none }
def scanKeysRow : OpenClaim := { program := "ytciaccjambdmkaa", sum := "eb064dfe10d500570985b5aecd59cf7a50a5349a5becda0d997493444bd91102", func := "skylight/skylightlaw13.ScanKeys", spec := "scanKeys", unfollowed := true, recurses := true, apart := false }
def ScanKeysSaid : Prop := scanKeysRow.holds Try.pinned (OpenSpec.ofChange scanKeysSpec)

/-- ITS FALSE NEIGHBOUR: 'it returns false'. Refute it at one input. -/
def scanKeysWrong : ChangeSpec := { name := "scanKeys", fn := fun _ => fun
  | [d1, d2, d3] => { results := [.lit (.bool false)], args := [d1, d2, d3] }
  | _ => none }
def ScanKeysWrongFalsely : Prop := scanKeysRow.holds Try.pinned (OpenSpec.ofChange scanKeysWrong)

/-- 'skylightlaw13.ScanColumns': WHATEVER THE INPUT: true; the input reads as it did. -/
def scanColumnsSpec : ChangeSpec := { name := "scanColumns", fn := fun _ => fun
  | [d1, d2, d3] => { results := [.lit (.bool true)], args := [d1, d2, d3] }
  | _ => none }
def scanColumnsRow : OpenClaim := { program := "ytciaccjambdmkaa", sum := "eb064dfe10d500570985b5aecd59cf7a50a5349a5becda0d997493444bd91102", func := "skylight/skylightlaw13.ScanColumns", spec := "scanColumns", unfollowed := true, recurses := true, apart := false }
def ScanColumnsSaid : Prop := scanColumnsRow.holds Try.pinned (OpenSpec.ofChange scanColumnsSpec)

/-- ITS FALSE NEIGHBOUR: 'it returns false'. Refute it at one input. -/
def scanColumnsWrong : ChangeSpec := { name := "scanColumns", fn := fun _ => fun
  | [d1, d2, d3] => { results := [.lit (.bool false)], args := [d1, d2, d3] }
  | _ => none }
def ScanColumnsWrongFalsely : Prop := scanColumnsRow.holds Try.pinned (OpenSpec.ofChange scanColumnsWrong)

/-- 'skylightlaw13.ScanAll': WHATEVER THE INPUT: true; the input reads as it did. -/
def scanAllSpec : ChangeSpec := { name := "scanAll", fn := fun _ => fun
  | [d1, d2] => { results := [.lit (.bool true)], args := [d1, d2] }
  | _ => none }
def scanAllRow : OpenClaim := { program := "ytciaccjambdmkaa", sum := "eb064dfe10d500570985b5aecd59cf7a50a5349a5becda0d997493444bd91102", func := "skylight/skylightlaw13.ScanAll", spec := "scanAll", unfollowed := true, recurses := true, apart := false }
def ScanAllSaid : Prop := scanAllRow.holds Try.pinned (OpenSpec.ofChange scanAllSpec)

/-- ITS FALSE NEIGHBOUR: 'it returns false'. Refute it at one input. -/
def scanAllWrong : ChangeSpec := { name := "scanAll", fn := fun _ => fun
  | [d1, d2] => { results := [.lit (.bool false)], args := [d1, d2] }
  | _ => none }
def ScanAllWrongFalsely : Prop := scanAllRow.holds Try.pinned (OpenSpec.ofChange scanAllWrong)

/-- 'skylightlaw13.ScanTurns': WHATEVER THE INPUT: true; the input reads as it did. -/
def scanTurnsSpec : ChangeSpec := { name := "scanTurns", fn := fun _ => fun
  | [d1, d2, d3] => { results := [.lit (.bool true)], args := [d1, d2, d3] }
  | _ => none }
def scanTurnsRow : OpenClaim := { program := "ytciaccjambdmkaa", sum := "eb064dfe10d500570985b5aecd59cf7a50a5349a5becda0d997493444bd91102", func := "skylight/skylightlaw13.ScanTurns", spec := "scanTurns", unfollowed := true, recurses := true, apart := false }
def ScanTurnsSaid : Prop := scanTurnsRow.holds Try.pinned (OpenSpec.ofChange scanTurnsSpec)

/-- ITS FALSE NEIGHBOUR: 'it returns false'. Refute it at one input. -/
def scanTurnsWrong : ChangeSpec := { name := "scanTurns", fn := fun _ => fun
  | [d1, d2, d3] => { results := [.lit (.bool false)], args := [d1, d2, d3] }
  | _ => none }
def ScanTurnsWrongFalsely : Prop := scanTurnsRow.holds Try.pinned (OpenSpec.ofChange scanTurnsWrong)

/- THE SECOND FORM. 'bulk': how many values and letters a reading holds, each counted each time it is reached (what is shared counts as often as it is met; a slice's spare places count too). A statement '..UptoSaid' is the law's where the arguments, and the package variables that the reading takes, are together of bulk at most 1048576: NARROWER than '..Said'. Prove '..Said' where nothing that the law and all that it calls make is longer than what came in: it says more and counts as full. Else prove '..UptoSaid'. A law counts once. -/
mutual
def uptoBulk {H : Type} : DataW H → Nat
  | .lit (.string bytes) => bytes.length + 1
  | .lit _ => 1
  | .nil => 1
  | .ptr d => uptoBulk d + 1
  | .slice elems spare => uptoBulkAll elems + uptoBulkAll spare + 1
  | .agg parts => uptoBulkAll parts + 1
  | .iface _ d => uptoBulk d + 1
  | .map entries => uptoBulkEntries entries + 1
  | .held _ => 1
def uptoBulkAll {H : Type} : List (DataW H) → Nat
  | [] => 0
  | d :: r => uptoBulk d + uptoBulkAll r
def uptoBulkEntries {H : Type} : List (Lit × DataW H) → Nat
  | [] => 0
  | x :: r => uptoBulkEntry x + uptoBulkEntries r
def uptoBulkEntry {H : Type} : Lit × DataW H → Nat
  | (.string bytes, d) => bytes.length + uptoBulk d + 1
  | (_, d) => uptoBulk d + 1
 end
def uptoSmall : (H : Type) → List (DataW H) → Bool := fun _ ds => decide (uptoBulkAll ds ≤ 1048576)
def OpenSpec.upto (s : _root_.Go.ChangeSpec) : _root_.Go.OpenSpec := { _root_.Go.OpenSpec.ofChange s with cond := some uptoSmall }

/-- 'skylightlaw13.ScanSums', WHERE WHAT IT READS IS OF BULK AT MOST 1048576: true; the input reads as it did. -/
def scanSumsUptoRow : OpenClaim := { program := "ytciaccjambdmkaa", sum := "eb064dfe10d500570985b5aecd59cf7a50a5349a5becda0d997493444bd91102", func := "skylight/skylightlaw13.ScanSums", spec := "scanSums", unfollowed := true, recurses := true, apart := false, narrowed := true }
def ScanSumsUptoSaid : Prop := scanSumsUptoRow.holds Try.pinned (OpenSpec.upto scanSumsSpec)

/-- 'skylightlaw13.ScanKeys', WHERE WHAT IT READS IS OF BULK AT MOST 1048576: true; the input reads as it did. -/
def scanKeysUptoRow : OpenClaim := { program := "ytciaccjambdmkaa", sum := "eb064dfe10d500570985b5aecd59cf7a50a5349a5becda0d997493444bd91102", func := "skylight/skylightlaw13.ScanKeys", spec := "scanKeys", unfollowed := true, recurses := true, apart := false, narrowed := true }
def ScanKeysUptoSaid : Prop := scanKeysUptoRow.holds Try.pinned (OpenSpec.upto scanKeysSpec)

/-- 'skylightlaw13.ScanColumns', WHERE WHAT IT READS IS OF BULK AT MOST 1048576: true; the input reads as it did. -/
def scanColumnsUptoRow : OpenClaim := { program := "ytciaccjambdmkaa", sum := "eb064dfe10d500570985b5aecd59cf7a50a5349a5becda0d997493444bd91102", func := "skylight/skylightlaw13.ScanColumns", spec := "scanColumns", unfollowed := true, recurses := true, apart := false, narrowed := true }
def ScanColumnsUptoSaid : Prop := scanColumnsUptoRow.holds Try.pinned (OpenSpec.upto scanColumnsSpec)

/-- 'skylightlaw13.ScanAll', WHERE WHAT IT READS IS OF BULK AT MOST 1048576: true; the input reads as it did. -/
def scanAllUptoRow : OpenClaim := { program := "ytciaccjambdmkaa", sum := "eb064dfe10d500570985b5aecd59cf7a50a5349a5becda0d997493444bd91102", func := "skylight/skylightlaw13.ScanAll", spec := "scanAll", unfollowed := true, recurses := true, apart := false, narrowed := true }
def ScanAllUptoSaid : Prop := scanAllUptoRow.holds Try.pinned (OpenSpec.upto scanAllSpec)

/-- 'skylightlaw13.ScanTurns', WHERE WHAT IT READS IS OF BULK AT MOST 1048576: true; the input reads as it did. -/
def scanTurnsUptoRow : OpenClaim := { program := "ytciaccjambdmkaa", sum := "eb064dfe10d500570985b5aecd59cf7a50a5349a5becda0d997493444bd91102", func := "skylight/skylightlaw13.ScanTurns", spec := "scanTurns", unfollowed := true, recurses := true, apart := false, narrowed := true }
def ScanTurnsUptoSaid : Prop := scanTurnsUptoRow.holds Try.pinned (OpenSpec.upto scanTurnsSpec)

end Rows
end Go.Proofs.Ytciaccjambdmkaa

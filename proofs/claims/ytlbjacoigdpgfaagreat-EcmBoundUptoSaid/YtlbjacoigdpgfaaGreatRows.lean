/-
  No cell of these rows narrows 'for every input' (looked for: loops, veiled, ifaces, maps, wideKeys, modest, calm, conditions, laid).
  DERIVED. THE GIVEN ROWS OF THIS SEAT. 3 by the template 'for every input the law returns true; each argument reads behind the call as it read before'; 0 by the template 'total and deterministic' (their statements: YtlbjacoigdpgfaaGreatTotals.lean).
  GIVEN WITH THE SEED: the statements are not yours to turn. If you find one false, say at which input.
  Laid BY PROGRAM, IN A SANDBOX (cutbox-rows.mjs): the forced cells as the released guide's own fill.sh prints them over the translation 4eb7a56f4a408a81… (all of the seat's roots in one cut). By AI agents, Wed Nov 11 2026. No macro, syntax, notation, axiom, sorry.
-/
import Derived.Test.YtlbjacoigdpgfaaGreatChecked
import GoSem.Claim
import GoSem.ClaimJoined
import GoSem.ClaimMapViews
import Derived.JoinedTies
import Derived.KernelRfl
namespace Go.Proofs.YtlbjacoigdpgfaaGreat
/- THE CELL 'sum', in the pinned program and in every row, IS THE sha256 OF THE DUMP (.gsa) THAT YtlbjacoigdpgfaaGreatProg.lean LOADS. Nothing in Lean hashes anything: it is a label: what it is worth is what the hold of that sum in a sandbox is worth. -/
noncomputable def Tryz.pinned : Pinned := { name := "ytlbjacoigdpgfaagreat", sum := "4eb7a56f4a408a81adc39d16980cf8cff64854d9d192a70bcb4078baab50a3bc", checked := Tryz.checked }
namespace Rows
def none {H : Type} : Left H := { results := [], args := [] }

/-- 'skylightlaw16.EcmAsked': WHATEVER THE INPUT: true; the input reads as it did. -/
def ecmAskedSpec : ChangeSpec := { name := "ecmAsked", fn := fun _ => fun
  | [d1, d2, d3] => { results := [.lit (.bool true)], args := [d1, d2, d3] }
  | _ => none }
def ecmAskedRow : OpenClaim := { program := "ytlbjacoigdpgfaagreat", sum := "4eb7a56f4a408a81adc39d16980cf8cff64854d9d192a70bcb4078baab50a3bc", func := "skylight/skylightlaw16.EcmAsked", spec := "ecmAsked", unfollowed := true, recurses := true, apart := false }
def EcmAskedSaid : Prop := ecmAskedRow.holds Tryz.pinned (OpenSpec.ofChange ecmAskedSpec)

/-- ITS FALSE NEIGHBOUR: 'it returns false'. Refute it at one input. -/
def ecmAskedWrong : ChangeSpec := { name := "ecmAsked", fn := fun _ => fun
  | [d1, d2, d3] => { results := [.lit (.bool false)], args := [d1, d2, d3] }
  | _ => none }
def EcmAskedWrongFalsely : Prop := ecmAskedRow.holds Tryz.pinned (OpenSpec.ofChange ecmAskedWrong)

/-- 'skylightlaw16.EcmBound': WHATEVER THE INPUT: true; the input reads as it did. -/
def ecmBoundSpec : ChangeSpec := { name := "ecmBound", fn := fun _ => fun
  | [d1, d2, d3] => { results := [.lit (.bool true)], args := [d1, d2, d3] }
  | _ => none }
def ecmBoundRow : OpenClaim := { program := "ytlbjacoigdpgfaagreat", sum := "4eb7a56f4a408a81adc39d16980cf8cff64854d9d192a70bcb4078baab50a3bc", func := "skylight/skylightlaw16.EcmBound", spec := "ecmBound", unfollowed := true, recurses := true, apart := false }
def EcmBoundSaid : Prop := ecmBoundRow.holds Tryz.pinned (OpenSpec.ofChange ecmBoundSpec)

/-- ITS FALSE NEIGHBOUR: 'it returns false'. Refute it at one input. -/
def ecmBoundWrong : ChangeSpec := { name := "ecmBound", fn := fun _ => fun
  | [d1, d2, d3] => { results := [.lit (.bool false)], args := [d1, d2, d3] }
  | _ => none }
def EcmBoundWrongFalsely : Prop := ecmBoundRow.holds Tryz.pinned (OpenSpec.ofChange ecmBoundWrong)

/-- 'skylightlaw16.EcmPlays': WHATEVER THE INPUT: true; the input reads as it did. -/
def ecmPlaysSpec : ChangeSpec := { name := "ecmPlays", fn := fun _ => fun
  | [d1, d2] => { results := [.lit (.bool true)], args := [d1, d2] }
  | _ => none }
def ecmPlaysRow : OpenClaim := { program := "ytlbjacoigdpgfaagreat", sum := "4eb7a56f4a408a81adc39d16980cf8cff64854d9d192a70bcb4078baab50a3bc", func := "skylight/skylightlaw16.EcmPlays", spec := "ecmPlays", unfollowed := true, recurses := true, apart := false }
def EcmPlaysSaid : Prop := ecmPlaysRow.holds Tryz.pinned (OpenSpec.ofChange ecmPlaysSpec)

/-- ITS FALSE NEIGHBOUR: 'it returns false'. Refute it at one input. -/
def ecmPlaysWrong : ChangeSpec := { name := "ecmPlays", fn := fun _ => fun
  | [d1, d2] => { results := [.lit (.bool false)], args := [d1, d2] }
  | _ => none }
def EcmPlaysWrongFalsely : Prop := ecmPlaysRow.holds Tryz.pinned (OpenSpec.ofChange ecmPlaysWrong)

/- THE SECOND FORM. 'bulk': how many values and letters a reading holds, each counted each time it is reached (what is shared counts as often as it is met; a slice's spare places count too). A statement '..UptoSaid' is the law's where the arguments, and the package variables that the reading takes, are together of bulk at most 1048576: NARROWER than '..Said'. Prove '..Said' where nothing that the law and all that it calls make is longer than what came in: it says more and counts as full. Else prove '..UptoSaid'. A law counts once. -/
mutual
def uptoBulk {H : Type} : DataW H → Nat
  | .lit (.string bytes) => bytes.length + 1
  | .lit _ => 1
  | .nil => 1
  | .ptr d => uptoBulk d + 1
  | .slice elems spare => uptoBulkAll elems + uptoBulkAll spare + 1
  | .agg parts => uptoBulkAll parts + 1
  | .iface _ d => uptoBulk d + 1
  | .map entries => uptoBulkEntries entries + 1
  | .held _ => 1
def uptoBulkAll {H : Type} : List (DataW H) → Nat
  | [] => 0
  | d :: r => uptoBulk d + uptoBulkAll r
def uptoBulkEntries {H : Type} : List (Lit × DataW H) → Nat
  | [] => 0
  | x :: r => uptoBulkEntry x + uptoBulkEntries r
def uptoBulkEntry {H : Type} : Lit × DataW H → Nat
  | (.string bytes, d) => bytes.length + uptoBulk d + 1
  | (_, d) => uptoBulk d + 1
 end
def uptoSmall : (H : Type) → List (DataW H) → Bool := fun _ ds => decide (uptoBulkAll ds ≤ 1048576)
def OpenSpec.upto (s : _root_.Go.ChangeSpec) : _root_.Go.OpenSpec := { _root_.Go.OpenSpec.ofChange s with cond := some uptoSmall }

/-- 'skylightlaw16.EcmAsked', WHERE WHAT IT READS IS OF BULK AT MOST 1048576: true; the input reads as it did. -/
def ecmAskedUptoRow : OpenClaim := { program := "ytlbjacoigdpgfaagreat", sum := "4eb7a56f4a408a81adc39d16980cf8cff64854d9d192a70bcb4078baab50a3bc", func := "skylight/skylightlaw16.EcmAsked", spec := "ecmAsked", unfollowed := true, recurses := true, apart := false, narrowed := true }
def EcmAskedUptoSaid : Prop := ecmAskedUptoRow.holds Tryz.pinned (OpenSpec.upto ecmAskedSpec)

/-- 'skylightlaw16.EcmBound', WHERE WHAT IT READS IS OF BULK AT MOST 1048576: true; the input reads as it did. -/
def ecmBoundUptoRow : OpenClaim := { program := "ytlbjacoigdpgfaagreat", sum := "4eb7a56f4a408a81adc39d16980cf8cff64854d9d192a70bcb4078baab50a3bc", func := "skylight/skylightlaw16.EcmBound", spec := "ecmBound", unfollowed := true, recurses := true, apart := false, narrowed := true }
def EcmBoundUptoSaid : Prop := ecmBoundUptoRow.holds Tryz.pinned (OpenSpec.upto ecmBoundSpec)

/-- 'skylightlaw16.EcmPlays', WHERE WHAT IT READS IS OF BULK AT MOST 1048576: true; the input reads as it did. -/
def ecmPlaysUptoRow : OpenClaim := { program := "ytlbjacoigdpgfaagreat", sum := "4eb7a56f4a408a81adc39d16980cf8cff64854d9d192a70bcb4078baab50a3bc", func := "skylight/skylightlaw16.EcmPlays", spec := "ecmPlays", unfollowed := true, recurses := true, apart := false, narrowed := true }
def EcmPlaysUptoSaid : Prop := ecmPlaysUptoRow.holds Tryz.pinned (OpenSpec.upto ecmPlaysSpec)

end Rows
end Go.Proofs.YtlbjacoigdpgfaaGreat

/-
  No cell of these rows narrows 'for every input' (looked for: loops, veiled, ifaces, maps, wideKeys, modest, calm, conditions, laid).
  DERIVED. THE GIVEN ROWS OF THIS SEAT. 5 by the template 'for every input the law returns true; each argument reads behind the call as it read before'; 0 by the template 'total and deterministic' (their statements: YtjiechgnlcpllaaTotals.lean).
  GIVEN WITH THE SEED: the statements are not yours to turn. If you find one false, say at which input.
  Laid BY PROGRAM, IN A SANDBOX (cutbox-rows.mjs): the forced cells as the released guide's own fill.sh prints them over the translation 6bb380be6d8788ac… (all of the seat's roots in one cut). By AI agents, Wed Nov 11 2026. No macro, syntax, notation, axiom, sorry.
-/
import Derived.Test.YtjiechgnlcpllaaChecked
import GoSem.Claim
import GoSem.ClaimJoined
import GoSem.ClaimMapViews
import Derived.JoinedTies
import Derived.KernelRfl
namespace Go.Proofs.Ytjiechgnlcpllaa
/- THE CELL 'sum', in the pinned program and in every row, IS THE sha256 OF THE DUMP (.gsa) THAT YtjiechgnlcpllaaProg.lean LOADS. Nothing in Lean hashes anything: it is a label: what it is worth is what the hold of that sum in a sandbox is worth. -/
noncomputable def Try.pinned : Pinned := { name := "ytjiechgnlcpllaa", sum := "6bb380be6d8788ac45d23568d70c73952c5b6d6ab641da84a2e9b2a68eef1590", checked := Try.checked }
namespace Rows
def none {H : Type} : Left H := { results := [], args := [] }

/-- 'skylightlaw15.GridAsked': WHATEVER THE INPUT: true; the input reads as it did. -/
def gridAskedSpec : ChangeSpec := { name := "gridAsked", fn := fun _ => fun
  | [d1, d2, d3] => { results := [.lit (.bool true)], args := [d1, d2, d3] }
  | _ => none }
def gridAskedRow : OpenClaim := { program := "ytjiechgnlcpllaa", sum := "6bb380be6d8788ac45d23568d70c73952c5b6d6ab641da84a2e9b2a68eef1590", func := "skylight/skylightlaw15.GridAsked", spec := "gridAsked", unfollowed := true, recurses := true, apart := false }
def GridAskedSaid : Prop := gridAskedRow.holds Try.pinned (OpenSpec.ofChange gridAskedSpec)

/-- ITS FALSE NEIGHBOUR: 'it returns false'. Refute it at one input. -/
def gridAskedWrong : ChangeSpec := { name := "gridAsked", fn := fun _ => fun
  | [d1, d2, d3] => { results := [.lit (.bool false)], args := [d1, d2, d3] }
  | _ => none }
def GridAskedWrongFalsely : Prop := gridAskedRow.holds Try.pinned (OpenSpec.ofChange gridAskedWrong)

/-- 'skylightlaw15.GridCells': WHATEVER THE INPUT: true; the input reads as it did. -/
def gridCellsSpec : ChangeSpec := { name := "gridCells", fn := fun _ => fun
  | [d1, d2, d3] => { results := [.lit (.bool true)], args := [d1, d2, d3] }
  | _ => none }
def gridCellsRow : OpenClaim := { program := "ytjiechgnlcpllaa", sum := "6bb380be6d8788ac45d23568d70c73952c5b6d6ab641da84a2e9b2a68eef1590", func := "skylight/skylightlaw15.GridCells", spec := "gridCells", unfollowed := true, recurses := true, apart := false }
def GridCellsSaid : Prop := gridCellsRow.holds Try.pinned (OpenSpec.ofChange gridCellsSpec)

/-- ITS FALSE NEIGHBOUR: 'it returns false'. Refute it at one input. -/
def gridCellsWrong : ChangeSpec := { name := "gridCells", fn := fun _ => fun
  | [d1, d2, d3] => { results := [.lit (.bool false)], args := [d1, d2, d3] }
  | _ => none }
def GridCellsWrongFalsely : Prop := gridCellsRow.holds Try.pinned (OpenSpec.ofChange gridCellsWrong)

/-- 'skylightlaw15.GridApart': WHATEVER THE INPUT: true; the input reads as it did. -/
def gridApartSpec : ChangeSpec := { name := "gridApart", fn := fun _ => fun
  | [d1, d2, d3] => { results := [.lit (.bool true)], args := [d1, d2, d3] }
  | _ => none }
def gridApartRow : OpenClaim := { program := "ytjiechgnlcpllaa", sum := "6bb380be6d8788ac45d23568d70c73952c5b6d6ab641da84a2e9b2a68eef1590", func := "skylight/skylightlaw15.GridApart", spec := "gridApart", unfollowed := true, recurses := true, apart := false }
def GridApartSaid : Prop := gridApartRow.holds Try.pinned (OpenSpec.ofChange gridApartSpec)

/-- ITS FALSE NEIGHBOUR: 'it returns false'. Refute it at one input. -/
def gridApartWrong : ChangeSpec := { name := "gridApart", fn := fun _ => fun
  | [d1, d2, d3] => { results := [.lit (.bool false)], args := [d1, d2, d3] }
  | _ => none }
def GridApartWrongFalsely : Prop := gridApartRow.holds Try.pinned (OpenSpec.ofChange gridApartWrong)

/-- 'skylightlaw15.GridSame': WHATEVER THE INPUT: true; the input reads as it did. -/
def gridSameSpec : ChangeSpec := { name := "gridSame", fn := fun _ => fun
  | [d1, d2, d3] => { results := [.lit (.bool true)], args := [d1, d2, d3] }
  | _ => none }
def gridSameRow : OpenClaim := { program := "ytjiechgnlcpllaa", sum := "6bb380be6d8788ac45d23568d70c73952c5b6d6ab641da84a2e9b2a68eef1590", func := "skylight/skylightlaw15.GridSame", spec := "gridSame", unfollowed := true, recurses := true, apart := false }
def GridSameSaid : Prop := gridSameRow.holds Try.pinned (OpenSpec.ofChange gridSameSpec)

/-- ITS FALSE NEIGHBOUR: 'it returns false'. Refute it at one input. -/
def gridSameWrong : ChangeSpec := { name := "gridSame", fn := fun _ => fun
  | [d1, d2, d3] => { results := [.lit (.bool false)], args := [d1, d2, d3] }
  | _ => none }
def GridSameWrongFalsely : Prop := gridSameRow.holds Try.pinned (OpenSpec.ofChange gridSameWrong)

/-- 'skylightlaw15.GridPlays': WHATEVER THE INPUT: true; the input reads as it did. -/
def gridPlaysSpec : ChangeSpec := { name := "gridPlays", fn := fun _ => fun
  | [d1, d2, d3] => { results := [.lit (.bool true)], args := [d1, d2, d3] }
  | _ => none }
def gridPlaysRow : OpenClaim := { program := "ytjiechgnlcpllaa", sum := "6bb380be6d8788ac45d23568d70c73952c5b6d6ab641da84a2e9b2a68eef1590", func := "skylight/skylightlaw15.GridPlays", spec := "gridPlays", unfollowed := true, recurses := true, apart := false }
def GridPlaysSaid : Prop := gridPlaysRow.holds Try.pinned (OpenSpec.ofChange gridPlaysSpec)

/-- ITS FALSE NEIGHBOUR: 'it returns false'. Refute it at one input. -/
def gridPlaysWrong : ChangeSpec := { name := "gridPlays", fn := fun _ => fun
  | [d1, d2, d3] => { results := [.lit (.bool false)], args := [d1, d2, d3] }
  | _ => none }
def GridPlaysWrongFalsely : Prop := gridPlaysRow.holds Try.pinned (OpenSpec.ofChange gridPlaysWrong)

/- THE SECOND FORM. 'bulk': how many values and letters a reading holds, each counted each time it is reached (what is shared counts as often as it is met; a slice's spare places count too). A statement '..UptoSaid' is the law's where the arguments, and the package variables that the reading takes, are together of bulk at most 1048576: NARROWER than '..Said'. Prove '..Said' where nothing that the law and all that it calls make is longer than what came in: it says more and counts as full. Else prove '..UptoSaid'. A law counts once. -/
mutual
def uptoBulk {H : Type} : DataW H → Nat
  | .lit (.string bytes) => bytes.length + 1
  | .lit _ => 1
  | .nil => 1
  | .ptr d => uptoBulk d + 1
  | .slice elems spare => uptoBulkAll elems + uptoBulkAll spare + 1
  | .agg parts => uptoBulkAll parts + 1
  | .iface _ d => uptoBulk d + 1
  | .map entries => uptoBulkEntries entries + 1
  | .held _ => 1
def uptoBulkAll {H : Type} : List (DataW H) → Nat
  | [] => 0
  | d :: r => uptoBulk d + uptoBulkAll r
def uptoBulkEntries {H : Type} : List (Lit × DataW H) → Nat
  | [] => 0
  | x :: r => uptoBulkEntry x + uptoBulkEntries r
def uptoBulkEntry {H : Type} : Lit × DataW H → Nat
  | (.string bytes, d) => bytes.length + uptoBulk d + 1
  | (_, d) => uptoBulk d + 1
 end
def uptoSmall : (H : Type) → List (DataW H) → Bool := fun _ ds => decide (uptoBulkAll ds ≤ 1048576)
def OpenSpec.upto (s : _root_.Go.ChangeSpec) : _root_.Go.OpenSpec := { _root_.Go.OpenSpec.ofChange s with cond := some uptoSmall }

/-- 'skylightlaw15.GridAsked', WHERE WHAT IT READS IS OF BULK AT MOST 1048576: true; the input reads as it did. -/
def gridAskedUptoRow : OpenClaim := { program := "ytjiechgnlcpllaa", sum := "6bb380be6d8788ac45d23568d70c73952c5b6d6ab641da84a2e9b2a68eef1590", func := "skylight/skylightlaw15.GridAsked", spec := "gridAsked", unfollowed := true, recurses := true, apart := false, narrowed := true }
def GridAskedUptoSaid : Prop := gridAskedUptoRow.holds Try.pinned (OpenSpec.upto gridAskedSpec)

/-- 'skylightlaw15.GridCells', WHERE WHAT IT READS IS OF BULK AT MOST 1048576: true; the input reads as it did. -/
def gridCellsUptoRow : OpenClaim := { program := "ytjiechgnlcpllaa", sum := "6bb380be6d8788ac45d23568d70c73952c5b6d6ab641da84a2e9b2a68eef1590", func := "skylight/skylightlaw15.GridCells", spec := "gridCells", unfollowed := true, recurses := true, apart := false, narrowed := true }
def GridCellsUptoSaid : Prop := gridCellsUptoRow.holds Try.pinned (OpenSpec.upto gridCellsSpec)

/-- 'skylightlaw15.GridApart', WHERE WHAT IT READS IS OF BULK AT MOST 1048576: true; the input reads as it did. -/
def gridApartUptoRow : OpenClaim := { program := "ytjiechgnlcpllaa", sum := "6bb380be6d8788ac45d23568d70c73952c5b6d6ab641da84a2e9b2a68eef1590", func := "skylight/skylightlaw15.GridApart", spec := "gridApart", unfollowed := true, recurses := true, apart := false, narrowed := true }
def GridApartUptoSaid : Prop := gridApartUptoRow.holds Try.pinned (OpenSpec.upto gridApartSpec)

/-- 'skylightlaw15.GridSame', WHERE WHAT IT READS IS OF BULK AT MOST 1048576: true; the input reads as it did. -/
def gridSameUptoRow : OpenClaim := { program := "ytjiechgnlcpllaa", sum := "6bb380be6d8788ac45d23568d70c73952c5b6d6ab641da84a2e9b2a68eef1590", func := "skylight/skylightlaw15.GridSame", spec := "gridSame", unfollowed := true, recurses := true, apart := false, narrowed := true }
def GridSameUptoSaid : Prop := gridSameUptoRow.holds Try.pinned (OpenSpec.upto gridSameSpec)

/-- 'skylightlaw15.GridPlays', WHERE WHAT IT READS IS OF BULK AT MOST 1048576: true; the input reads as it did. -/
def gridPlaysUptoRow : OpenClaim := { program := "ytjiechgnlcpllaa", sum := "6bb380be6d8788ac45d23568d70c73952c5b6d6ab641da84a2e9b2a68eef1590", func := "skylight/skylightlaw15.GridPlays", spec := "gridPlays", unfollowed := true, recurses := true, apart := false, narrowed := true }
def GridPlaysUptoSaid : Prop := gridPlaysUptoRow.holds Try.pinned (OpenSpec.upto gridPlaysSpec)

end Rows
end Go.Proofs.Ytjiechgnlcpllaa

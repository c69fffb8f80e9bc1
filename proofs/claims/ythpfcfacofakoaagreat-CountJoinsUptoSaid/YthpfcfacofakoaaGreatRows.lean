/-
  No cell of these rows narrows 'for every input' (looked for: loops, veiled, ifaces, maps, wideKeys, modest, calm, conditions, laid).
  DERIVED. THE GIVEN ROWS OF THIS SEAT. 4 by the template 'for every input the law returns true; each argument reads behind the call as it read before'; 0 by the template 'total and deterministic' (their statements: YthpfcfacofakoaaGreatTotals.lean).
  GIVEN WITH THE SEED: the statements are not yours to turn. If you find one false, say at which input.
  Laid BY PROGRAM, IN A SANDBOX (cutbox-rows.mjs): the forced cells as the released guide's own fill.sh prints them over the translation 2cabff560644f999… (all of the seat's roots in one cut). By AI agents, Wed Nov 11 2026. No macro, syntax, notation, axiom, sorry.
-/
import Derived.Test.YthpfcfacofakoaaGreatChecked
import GoSem.Claim
import GoSem.ClaimJoined
import GoSem.ClaimMapViews
import Derived.JoinedTies
import Derived.KernelRfl
namespace Go.Proofs.YthpfcfacofakoaaGreat
/- THE CELL 'sum', in the pinned program and in every row, IS THE sha256 OF THE DUMP (.gsa) THAT YthpfcfacofakoaaGreatProg.lean LOADS. Nothing in Lean hashes anything: it is a label: what it is worth is what the hold of that sum in a sandbox is worth. -/
noncomputable def Tryz.pinned : Pinned := { name := "ythpfcfacofakoaagreat", sum := "2cabff560644f999d44781d9c2943091c6857c2fd35e166f9c9dc3a402d58b0c", checked := Tryz.checked }
namespace Rows
def none {H : Type} : Left H := { results := [], args := [] }

/-- 'skylightlaw14.CountMerges': WHATEVER THE INPUT: true; the input reads as it did. -/
def countMergesSpec : ChangeSpec := { name := "countMerges", fn := fun _ => fun
  | [d1, d2, d3] => { results := [.lit (.bool true)], args := [d1, d2, d3] }
  | _ => none }
def countMergesRow : OpenClaim := { program := "ythpfcfacofakoaagreat", sum := "2cabff560644f999d44781d9c2943091c6857c2fd35e166f9c9dc3a402d58b0c", func := "skylight/skylightlaw14.CountMerges", spec := "countMerges", unfollowed := true, recurses := true, apart := false }
def CountMergesSaid : Prop := countMergesRow.holds Tryz.pinned (OpenSpec.ofChange countMergesSpec)

/-- ITS FALSE NEIGHBOUR: 'it returns false'. Refute it at one input. -/
def countMergesWrong : ChangeSpec := { name := "countMerges", fn := fun _ => fun
  | [d1, d2, d3] => { results := [.lit (.bool false)], args := [d1, d2, d3] }
  | _ => none }
def CountMergesWrongFalsely : Prop := countMergesRow.holds Tryz.pinned (OpenSpec.ofChange countMergesWrong)

/-- 'skylightlaw14.CountJoins': WHATEVER THE INPUT: true; the input reads as it did. -/
def countJoinsSpec : ChangeSpec := { name := "countJoins", fn := fun _ => fun
  | [d1, d2, d3] => { results := [.lit (.bool true)], args := [d1, d2, d3] }
  | _ => none }
def countJoinsRow : OpenClaim := { program := "ythpfcfacofakoaagreat", sum := "2cabff560644f999d44781d9c2943091c6857c2fd35e166f9c9dc3a402d58b0c", func := "skylight/skylightlaw14.CountJoins", spec := "countJoins", unfollowed := true, recurses := true, apart := false }
def CountJoinsSaid : Prop := countJoinsRow.holds Tryz.pinned (OpenSpec.ofChange countJoinsSpec)

/-- ITS FALSE NEIGHBOUR: 'it returns false'. Refute it at one input. -/
def countJoinsWrong : ChangeSpec := { name := "countJoins", fn := fun _ => fun
  | [d1, d2, d3] => { results := [.lit (.bool false)], args := [d1, d2, d3] }
  | _ => none }
def CountJoinsWrongFalsely : Prop := countJoinsRow.holds Tryz.pinned (OpenSpec.ofChange countJoinsWrong)

/-- 'skylightlaw16.EcmMerges': WHATEVER THE INPUT: true; the input reads as it did. -/
def ecmMergesSpec : ChangeSpec := { name := "ecmMerges", fn := fun _ => fun
  | [d1, d2, d3] => { results := [.lit (.bool true)], args := [d1, d2, d3] }
  | _ => none }
def ecmMergesRow : OpenClaim := { program := "ythpfcfacofakoaagreat", sum := "2cabff560644f999d44781d9c2943091c6857c2fd35e166f9c9dc3a402d58b0c", func := "skylight/skylightlaw16.EcmMerges", spec := "ecmMerges", unfollowed := true, recurses := true, apart := false }
def EcmMergesSaid : Prop := ecmMergesRow.holds Tryz.pinned (OpenSpec.ofChange ecmMergesSpec)

/-- ITS FALSE NEIGHBOUR: 'it returns false'. Refute it at one input. -/
def ecmMergesWrong : ChangeSpec := { name := "ecmMerges", fn := fun _ => fun
  | [d1, d2, d3] => { results := [.lit (.bool false)], args := [d1, d2, d3] }
  | _ => none }
def EcmMergesWrongFalsely : Prop := ecmMergesRow.holds Tryz.pinned (OpenSpec.ofChange ecmMergesWrong)

/-- 'skylightlaw16.EcmJoins': WHATEVER THE INPUT: true; the input reads as it did. -/
def ecmJoinsSpec : ChangeSpec := { name := "ecmJoins", fn := fun _ => fun
  | [d1, d2, d3] => { results := [.lit (.bool true)], args := [d1, d2, d3] }
  | _ => none }
def ecmJoinsRow : OpenClaim := { program := "ythpfcfacofakoaagreat", sum := "2cabff560644f999d44781d9c2943091c6857c2fd35e166f9c9dc3a402d58b0c", func := "skylight/skylightlaw16.EcmJoins", spec := "ecmJoins", unfollowed := true, recurses := true, apart := false }
def EcmJoinsSaid : Prop := ecmJoinsRow.holds Tryz.pinned (OpenSpec.ofChange ecmJoinsSpec)

/-- ITS FALSE NEIGHBOUR: 'it returns false'. Refute it at one input. -/
def ecmJoinsWrong : ChangeSpec := { name := "ecmJoins", fn := fun _ => fun
  | [d1, d2, d3] => { results := [.lit (.bool false)], args := [d1, d2, d3] }
  | _ => none }
def EcmJoinsWrongFalsely : Prop := ecmJoinsRow.holds Tryz.pinned (OpenSpec.ofChange ecmJoinsWrong)

/- THE SECOND FORM. 'bulk': how many values and letters a reading holds, each counted each time it is reached (what is shared counts as often as it is met; a slice's spare places count too). A statement '..UptoSaid' is the law's where the arguments, and the package variables that the reading takes, are together of bulk at most 1048576: NARROWER than '..Said'. Prove '..Said' where nothing that the law and all that it calls make is longer than what came in: it says more and counts as full. Else prove '..UptoSaid'. A law counts once. -/
mutual
def uptoBulk {H : Type} : DataW H → Nat
  | .lit (.string bytes) => bytes.length + 1
  | .lit _ => 1
  | .nil => 1
  | .ptr d => uptoBulk d + 1
  | .slice elems spare => uptoBulkAll elems + uptoBulkAll spare + 1
  | .agg parts => uptoBulkAll parts + 1
  | .iface _ d => uptoBulk d + 1
  | .map entries => uptoBulkEntries entries + 1
  | .held _ => 1
def uptoBulkAll {H : Type} : List (DataW H) → Nat
  | [] => 0
  | d :: r => uptoBulk d + uptoBulkAll r
def uptoBulkEntries {H : Type} : List (Lit × DataW H) → Nat
  | [] => 0
  | x :: r => uptoBulkEntry x + uptoBulkEntries r
def uptoBulkEntry {H : Type} : Lit × DataW H → Nat
  | (.string bytes, d) => bytes.length + uptoBulk d + 1
  | (_, d) => uptoBulk d + 1
 end
def uptoSmall : (H : Type) → List (DataW H) → Bool := fun _ ds => decide (uptoBulkAll ds ≤ 1048576)
def OpenSpec.upto (s : _root_.Go.ChangeSpec) : _root_.Go.OpenSpec := { _root_.Go.OpenSpec.ofChange s with cond := some uptoSmall }

/-- 'skylightlaw14.CountMerges', WHERE WHAT IT READS IS OF BULK AT MOST 1048576: true; the input reads as it did. -/
def countMergesUptoRow : OpenClaim := { program := "ythpfcfacofakoaagreat", sum := "2cabff560644f999d44781d9c2943091c6857c2fd35e166f9c9dc3a402d58b0c", func := "skylight/skylightlaw14.CountMerges", spec := "countMerges", unfollowed := true, recurses := true, apart := false, narrowed := true }
def CountMergesUptoSaid : Prop := countMergesUptoRow.holds Tryz.pinned (OpenSpec.upto countMergesSpec)

/-- 'skylightlaw14.CountJoins', WHERE WHAT IT READS IS OF BULK AT MOST 1048576: true; the input reads as it did. -/
def countJoinsUptoRow : OpenClaim := { program := "ythpfcfacofakoaagreat", sum := "2cabff560644f999d44781d9c2943091c6857c2fd35e166f9c9dc3a402d58b0c", func := "skylight/skylightlaw14.CountJoins", spec := "countJoins", unfollowed := true, recurses := true, apart := false, narrowed := true }
def CountJoinsUptoSaid : Prop := countJoinsUptoRow.holds Tryz.pinned (OpenSpec.upto countJoinsSpec)

/-- 'skylightlaw16.EcmMerges', WHERE WHAT IT READS IS OF BULK AT MOST 1048576: true; the input reads as it did. -/
def ecmMergesUptoRow : OpenClaim := { program := "ythpfcfacofakoaagreat", sum := "2cabff560644f999d44781d9c2943091c6857c2fd35e166f9c9dc3a402d58b0c", func := "skylight/skylightlaw16.EcmMerges", spec := "ecmMerges", unfollowed := true, recurses := true, apart := false, narrowed := true }
def EcmMergesUptoSaid : Prop := ecmMergesUptoRow.holds Tryz.pinned (OpenSpec.upto ecmMergesSpec)

/-- 'skylightlaw16.EcmJoins', WHERE WHAT IT READS IS OF BULK AT MOST 1048576: true; the input reads as it did. -/
def ecmJoinsUptoRow : OpenClaim := { program := "ythpfcfacofakoaagreat", sum := "2cabff560644f999d44781d9c2943091c6857c2fd35e166f9c9dc3a402d58b0c", func := "skylight/skylightlaw16.EcmJoins", spec := "ecmJoins", unfollowed := true, recurses := true, apart := false, narrowed := true }
def EcmJoinsUptoSaid : Prop := ecmJoinsUptoRow.holds Tryz.pinned (OpenSpec.upto ecmJoinsSpec)

end Rows
end Go.Proofs.YthpfcfacofakoaaGreat

/-
  No cell of these rows narrows 'for every input' (looked for: loops, veiled, ifaces, maps, wideKeys, modest, calm, conditions, laid).
  DERIVED. THE GIVEN ROWS OF THIS SEAT. 6 by the template 'for every input the law returns true; each argument reads behind the call as it read before'; 0 by the template 'total and deterministic' (their statements: YtmpockfgppcnbaaTotals.lean).
  GIVEN WITH THE SEED: the statements are not yours to turn. If you find one false, say at which input.
  Laid BY PROGRAM, IN A SANDBOX (cutbox-rows.mjs): the forced cells as the released guide's own fill.sh prints them over the translation db90a282e0975b05… (all of the seat's roots in one cut). By AI agents, Wed Nov 11 2026. No macro, syntax, notation, axiom, sorry.
-/
import Derived.Test.YtmpockfgppcnbaaChecked
import GoSem.Claim
import GoSem.ClaimJoined
import GoSem.ClaimMapViews
import Derived.JoinedTies
import Derived.KernelRfl
namespace Go.Proofs.Ytmpockfgppcnbaa
/- THE CELL 'sum', in the pinned program and in every row, IS THE sha256 OF THE DUMP (.gsa) THAT YtmpockfgppcnbaaProg.lean LOADS. Nothing in Lean hashes anything: it is a label: what it is worth is what the hold of that sum in a sandbox is worth. -/
noncomputable def Try.pinned : Pinned := { name := "ytmpockfgppcnbaa", sum := "db90a282e0975b05866200d2edee5a8e947fbfdadd20bccedabe234ba342263e", checked := Try.checked }
namespace Rows
def none {H : Type} : Left H := { results := [], args := [] }

/-- 'skylightlaw10.ReplayMerges': WHATEVER THE INPUT: true; the input reads as it did. -/
def replayMergesSpec : ChangeSpec := { name := "replayMerges", fn := fun _ => fun
  | [d1, d2, d3] => { results := [.lit (.bool true)], args := [d1, d2, d3] }
  | _ => none }
def replayMergesRow : OpenClaim := { program := "ytmpockfgppcnbaa", sum := "db90a282e0975b05866200d2edee5a8e947fbfdadd20bccedabe234ba342263e", func := "skylight/skylightlaw10.ReplayMerges", spec := "replayMerges", unfollowed := true, recurses := true, apart := false }
def ReplayMergesSaid : Prop := replayMergesRow.holds Try.pinned (OpenSpec.ofChange replayMergesSpec)

/-- ITS FALSE NEIGHBOUR: 'it returns false'. Refute it at one input. -/
def replayMergesWrong : ChangeSpec := { name := "replayMerges", fn := fun _ => fun
  | [d1, d2, d3] => { results := [.lit (.bool false)], args := [d1, d2, d3] }
  | _ => none }
def ReplayMergesWrongFalsely : Prop := replayMergesRow.holds Try.pinned (OpenSpec.ofChange replayMergesWrong)

/-- 'skylightlaw10.ReplaySmall': WHATEVER THE INPUT: true; the input reads as it did. -/
def replaySmallSpec : ChangeSpec := { name := "replaySmall", fn := fun _ => fun
  | [d] => { results := [.lit (.bool true)], args := [d] }
  | _ => none }
def replaySmallRow : OpenClaim := { program := "ytmpockfgppcnbaa", sum := "db90a282e0975b05866200d2edee5a8e947fbfdadd20bccedabe234ba342263e", func := "skylight/skylightlaw10.ReplaySmall", spec := "replaySmall", unfollowed := true, recurses := true, apart := false }
def ReplaySmallSaid : Prop := replaySmallRow.holds Try.pinned (OpenSpec.ofChange replaySmallSpec)

/-- ITS FALSE NEIGHBOUR: 'it returns false'. Refute it at one input. -/
def replaySmallWrong : ChangeSpec := { name := "replaySmall", fn := fun _ => fun
  | [d] => { results := [.lit (.bool false)], args := [d] }
  | _ => none }
def ReplaySmallWrongFalsely : Prop := replaySmallRow.holds Try.pinned (OpenSpec.ofChange replaySmallWrong)

/-- 'skylightlaw10.ReplayBound': WHATEVER THE INPUT: true; the input reads as it did. -/
def replayBoundSpec : ChangeSpec := { name := "replayBound", fn := fun _ => fun
  | [d1, d2, d3] => { results := [.lit (.bool true)], args := [d1, d2, d3] }
  | _ => none }
def replayBoundRow : OpenClaim := { program := "ytmpockfgppcnbaa", sum := "db90a282e0975b05866200d2edee5a8e947fbfdadd20bccedabe234ba342263e", func := "skylight/skylightlaw10.ReplayBound", spec := "replayBound", unfollowed := true, recurses := true, apart := false }
def ReplayBoundSaid : Prop := replayBoundRow.holds Try.pinned (OpenSpec.ofChange replayBoundSpec)

/-- ITS FALSE NEIGHBOUR: 'it returns false'. Refute it at one input. -/
def replayBoundWrong : ChangeSpec := { name := "replayBound", fn := fun _ => fun
  | [d1, d2, d3] => { results := [.lit (.bool false)], args := [d1, d2, d3] }
  | _ => none }
def ReplayBoundWrongFalsely : Prop := replayBoundRow.holds Try.pinned (OpenSpec.ofChange replayBoundWrong)

/-- 'skylightlaw10.ReplayNever': WHATEVER THE INPUT: true; the input reads as it did. -/
def replayNeverSpec : ChangeSpec := { name := "replayNever", fn := fun _ => fun
  | [d1, d2, d3] => { results := [.lit (.bool true)], args := [d1, d2, d3] }
  | _ => none }
def replayNeverRow : OpenClaim := { program := "ytmpockfgppcnbaa", sum := "db90a282e0975b05866200d2edee5a8e947fbfdadd20bccedabe234ba342263e", func := "skylight/skylightlaw10.ReplayNever", spec := "replayNever", unfollowed := true, recurses := true, apart := false }
def ReplayNeverSaid : Prop := replayNeverRow.holds Try.pinned (OpenSpec.ofChange replayNeverSpec)

/-- ITS FALSE NEIGHBOUR: 'it returns false'. Refute it at one input. -/
def replayNeverWrong : ChangeSpec := { name := "replayNever", fn := fun _ => fun
  | [d1, d2, d3] => { results := [.lit (.bool false)], args := [d1, d2, d3] }
  | _ => none }
def ReplayNeverWrongFalsely : Prop := replayNeverRow.holds Try.pinned (OpenSpec.ofChange replayNeverWrong)

/-- 'skylightlaw10.ReplayWith': WHATEVER THE INPUT: true; the input reads as it did. -/
def replayWithSpec : ChangeSpec := { name := "replayWith", fn := fun _ => fun
  | [d1, d2, d3] => { results := [.lit (.bool true)], args := [d1, d2, d3] }
  | _ => none }
def replayWithRow : OpenClaim := { program := "ytmpockfgppcnbaa", sum := "db90a282e0975b05866200d2edee5a8e947fbfdadd20bccedabe234ba342263e", func := "skylight/skylightlaw10.ReplayWith", spec := "replayWith", unfollowed := true, recurses := true, apart := false }
def ReplayWithSaid : Prop := replayWithRow.holds Try.pinned (OpenSpec.ofChange replayWithSpec)

/-- ITS FALSE NEIGHBOUR: 'it returns false'. Refute it at one input. -/
def replayWithWrong : ChangeSpec := { name := "replayWith", fn := fun _ => fun
  | [d1, d2, d3] => { results := [.lit (.bool false)], args := [d1, d2, d3] }
  | _ => none }
def ReplayWithWrongFalsely : Prop := replayWithRow.holds Try.pinned (OpenSpec.ofChange replayWithWrong)

/-- 'skylightlaw10.ReplaySums': WHATEVER THE INPUT: true; the input reads as it did. -/
def replaySumsSpec : ChangeSpec := { name := "replaySums", fn := fun _ => fun
  | [d1, d2] => { results := [.lit (.bool true)], args := [d1, d2] }
  | _ => none }
def replaySumsRow : OpenClaim := { program := "ytmpockfgppcnbaa", sum := "db90a282e0975b05866200d2edee5a8e947fbfdadd20bccedabe234ba342263e", func := "skylight/skylightlaw10.ReplaySums", spec := "replaySums", unfollowed := true, recurses := true, apart := false }
def ReplaySumsSaid : Prop := replaySumsRow.holds Try.pinned (OpenSpec.ofChange replaySumsSpec)

/-- ITS FALSE NEIGHBOUR: 'it returns false'. Refute it at one input. -/
def replaySumsWrong : ChangeSpec := { name := "replaySums", fn := fun _ => fun
  | [d1, d2] => { results := [.lit (.bool false)], args := [d1, d2] }
  | _ => none }
def ReplaySumsWrongFalsely : Prop := replaySumsRow.holds Try.pinned (OpenSpec.ofChange replaySumsWrong)

/- THE SECOND FORM. 'bulk': how many values and letters a reading holds, each counted each time it is reached (what is shared counts as often as it is met; a slice's spare places count too). A statement '..UptoSaid' is the law's where the arguments, and the package variables that the reading takes, are together of bulk at most 1048576: NARROWER than '..Said'. Prove '..Said' where nothing that the law and all that it calls make is longer than what came in: it says more and counts as full. Else prove '..UptoSaid'. A law counts once. -/
mutual
def uptoBulk {H : Type} : DataW H → Nat
  | .lit (.string bytes) => bytes.length + 1
  | .lit _ => 1
  | .nil => 1
  | .ptr d => uptoBulk d + 1
  | .slice elems spare => uptoBulkAll elems + uptoBulkAll spare + 1
  | .agg parts => uptoBulkAll parts + 1
  | .iface _ d => uptoBulk d + 1
  | .map entries => uptoBulkEntries entries + 1
  | .held _ => 1
def uptoBulkAll {H : Type} : List (DataW H) → Nat
  | [] => 0
  | d :: r => uptoBulk d + uptoBulkAll r
def uptoBulkEntries {H : Type} : List (Lit × DataW H) → Nat
  | [] => 0
  | x :: r => uptoBulkEntry x + uptoBulkEntries r
def uptoBulkEntry {H : Type} : Lit × DataW H → Nat
  | (.string bytes, d) => bytes.length + uptoBulk d + 1
  | (_, d) => uptoBulk d + 1
 end
def uptoSmall : (H : Type) → List (DataW H) → Bool := fun _ ds => decide (uptoBulkAll ds ≤ 1048576)
def OpenSpec.upto (s : _root_.Go.ChangeSpec) : _root_.Go.OpenSpec := { _root_.Go.OpenSpec.ofChange s with cond := some uptoSmall }

/-- 'skylightlaw10.ReplayMerges', WHERE WHAT IT READS IS OF BULK AT MOST 1048576: true; the input reads as it did. -/
def replayMergesUptoRow : OpenClaim := { program := "ytmpockfgppcnbaa", sum := "db90a282e0975b05866200d2edee5a8e947fbfdadd20bccedabe234ba342263e", func := "skylight/skylightlaw10.ReplayMerges", spec := "replayMerges", unfollowed := true, recurses := true, apart := false, narrowed := true }
def ReplayMergesUptoSaid : Prop := replayMergesUptoRow.holds Try.pinned (OpenSpec.upto replayMergesSpec)

/-- 'skylightlaw10.ReplaySmall', WHERE WHAT IT READS IS OF BULK AT MOST 1048576: true; the input reads as it did. -/
def replaySmallUptoRow : OpenClaim := { program := "ytmpockfgppcnbaa", sum := "db90a282e0975b05866200d2edee5a8e947fbfdadd20bccedabe234ba342263e", func := "skylight/skylightlaw10.ReplaySmall", spec := "replaySmall", unfollowed := true, recurses := true, apart := false, narrowed := true }
def ReplaySmallUptoSaid : Prop := replaySmallUptoRow.holds Try.pinned (OpenSpec.upto replaySmallSpec)

/-- 'skylightlaw10.ReplayBound', WHERE WHAT IT READS IS OF BULK AT MOST 1048576: true; the input reads as it did. -/
def replayBoundUptoRow : OpenClaim := { program := "ytmpockfgppcnbaa", sum := "db90a282e0975b05866200d2edee5a8e947fbfdadd20bccedabe234ba342263e", func := "skylight/skylightlaw10.ReplayBound", spec := "replayBound", unfollowed := true, recurses := true, apart := false, narrowed := true }
def ReplayBoundUptoSaid : Prop := replayBoundUptoRow.holds Try.pinned (OpenSpec.upto replayBoundSpec)

/-- 'skylightlaw10.ReplayNever', WHERE WHAT IT READS IS OF BULK AT MOST 1048576: true; the input reads as it did. -/
def replayNeverUptoRow : OpenClaim := { program := "ytmpockfgppcnbaa", sum := "db90a282e0975b05866200d2edee5a8e947fbfdadd20bccedabe234ba342263e", func := "skylight/skylightlaw10.ReplayNever", spec := "replayNever", unfollowed := true, recurses := true, apart := false, narrowed := true }
def ReplayNeverUptoSaid : Prop := replayNeverUptoRow.holds Try.pinned (OpenSpec.upto replayNeverSpec)

/-- 'skylightlaw10.ReplayWith', WHERE WHAT IT READS IS OF BULK AT MOST 1048576: true; the input reads as it did. -/
def replayWithUptoRow : OpenClaim := { program := "ytmpockfgppcnbaa", sum := "db90a282e0975b05866200d2edee5a8e947fbfdadd20bccedabe234ba342263e", func := "skylight/skylightlaw10.ReplayWith", spec := "replayWith", unfollowed := true, recurses := true, apart := false, narrowed := true }
def ReplayWithUptoSaid : Prop := replayWithUptoRow.holds Try.pinned (OpenSpec.upto replayWithSpec)

/-- 'skylightlaw10.ReplaySums', WHERE WHAT IT READS IS OF BULK AT MOST 1048576: true; the input reads as it did. -/
def replaySumsUptoRow : OpenClaim := { program := "ytmpockfgppcnbaa", sum := "db90a282e0975b05866200d2edee5a8e947fbfdadd20bccedabe234ba342263e", func := "skylight/skylightlaw10.ReplaySums", spec := "replaySums", unfollowed := true, recurses := true, apart := false, narrowed := true }
def ReplaySumsUptoSaid : Prop := replaySumsUptoRow.holds Try.pinned (OpenSpec.upto replaySumsSpec)

end Rows
end Go.Proofs.Ytmpockfgppcnbaa

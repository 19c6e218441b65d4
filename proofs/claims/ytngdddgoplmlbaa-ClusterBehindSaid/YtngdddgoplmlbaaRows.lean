/-
  No cell of these rows narrows 'for every input' (looked for: loops, veiled, ifaces, maps, wideKeys, modest, calm, conditions, laid).
  DERIVED. THE GIVEN ROWS OF THIS SEAT. 7 by the template 'for every input the law returns true; each argument reads behind the call as it read before'; 0 by the template 'total and deterministic' (their statements: YtngdddgoplmlbaaTotals.lean).
  GIVEN WITH THE SEED: the statements are not yours to turn. If you find one false, say at which input.
  Laid BY PROGRAM, IN A SANDBOX (cutbox-rows.mjs): the forced cells as the released guide's own fill.sh prints them over the translation d7a9d0a62e45a2af… (all of the seat's roots in one cut). By AI agents, Wed Nov 11 2026. No macro, syntax, notation, axiom, sorry.
-/
import Derived.Test.YtngdddgoplmlbaaChecked
import GoSem.Claim
import GoSem.ClaimJoined
import GoSem.ClaimMapViews
import Derived.JoinedTies
import Derived.KernelRfl
namespace Go.Proofs.Ytngdddgoplmlbaa
/- THE CELL 'sum', in the pinned program and in every row, IS THE sha256 OF THE DUMP (.gsa) THAT YtngdddgoplmlbaaProg.lean LOADS. Nothing in Lean hashes anything: it is a label: what it is worth is what the hold of that sum in a sandbox is worth. -/
noncomputable def Try.pinned : Pinned := { name := "ytngdddgoplmlbaa", sum := "d7a9d0a62e45a2af42a7b8c59409afcbacc8913526c967b1d52919e11fa1afb9", checked := Try.checked }
namespace Rows
def none {H : Type} : Left H := { results := [], args := [] }

/-- 'abugidalaw06.ClusterSplits': WHATEVER THE INPUT: true; the input reads as it did. -/
def clusterSplitsSpec : ChangeSpec := { name := "clusterSplits", fn := fun _ => fun
  | [d1, d2] => { results := [.lit (.bool true)], args := [d1, d2] }
  | _ => none }
def clusterSplitsRow : OpenClaim := { program := "ytngdddgoplmlbaa", sum := "d7a9d0a62e45a2af42a7b8c59409afcbacc8913526c967b1d52919e11fa1afb9", func := "abugida/abugidalaw06.ClusterSplits", spec := "clusterSplits", unfollowed := true, recurses := true, apart := false }
def ClusterSplitsSaid : Prop := clusterSplitsRow.holds Try.pinned (OpenSpec.ofChange clusterSplitsSpec)

/-- ITS FALSE NEIGHBOUR: 'it returns false'. Refute it at one input. -/
def clusterSplitsWrong : ChangeSpec := { name := "clusterSplits", fn := fun _ => fun
  | [d1, d2] => { results := [.lit (.bool false)], args := [d1, d2] }
  | _ => none }
def ClusterSplitsWrongFalsely : Prop := clusterSplitsRow.holds Try.pinned (OpenSpec.ofChange clusterSplitsWrong)

/-- 'abugidalaw06.ClusterFinds': WHATEVER THE INPUT: true; the input reads as it did. -/
def clusterFindsSpec : ChangeSpec := { name := "clusterFinds", fn := fun _ => fun
  | [d1, d2, d3] => { results := [.lit (.bool true)], args := [d1, d2, d3] }
  | _ => none }
def clusterFindsRow : OpenClaim := { program := "ytngdddgoplmlbaa", sum := "d7a9d0a62e45a2af42a7b8c59409afcbacc8913526c967b1d52919e11fa1afb9", func := "abugida/abugidalaw06.ClusterFinds", spec := "clusterFinds", unfollowed := true, recurses := true, apart := false }
def ClusterFindsSaid : Prop := clusterFindsRow.holds Try.pinned (OpenSpec.ofChange clusterFindsSpec)

/-- ITS FALSE NEIGHBOUR: 'it returns false'. Refute it at one input. -/
def clusterFindsWrong : ChangeSpec := { name := "clusterFinds", fn := fun _ => fun
  | [d1, d2, d3] => { results := [.lit (.bool false)], args := [d1, d2, d3] }
  | _ => none }
def ClusterFindsWrongFalsely : Prop := clusterFindsRow.holds Try.pinned (OpenSpec.ofChange clusterFindsWrong)

/-- 'abugidalaw06.ClusterCovers': WHATEVER THE INPUT: true; the input reads as it did. -/
def clusterCoversSpec : ChangeSpec := { name := "clusterCovers", fn := fun _ => fun
  | [d] => { results := [.lit (.bool true)], args := [d] }
  | _ => none }
def clusterCoversRow : OpenClaim := { program := "ytngdddgoplmlbaa", sum := "d7a9d0a62e45a2af42a7b8c59409afcbacc8913526c967b1d52919e11fa1afb9", func := "abugida/abugidalaw06.ClusterCovers", spec := "clusterCovers", unfollowed := true, recurses := true, apart := false }
def ClusterCoversSaid : Prop := clusterCoversRow.holds Try.pinned (OpenSpec.ofChange clusterCoversSpec)

/-- ITS FALSE NEIGHBOUR: 'it returns false'. Refute it at one input. -/
def clusterCoversWrong : ChangeSpec := { name := "clusterCovers", fn := fun _ => fun
  | [d] => { results := [.lit (.bool false)], args := [d] }
  | _ => none }
def ClusterCoversWrongFalsely : Prop := clusterCoversRow.holds Try.pinned (OpenSpec.ofChange clusterCoversWrong)

/-- 'abugidalaw06.ClusterBelongs': WHATEVER THE INPUT: true; the input reads as it did. -/
def clusterBelongsSpec : ChangeSpec := { name := "clusterBelongs", fn := fun _ => fun
  | [d] => { results := [.lit (.bool true)], args := [d] }
  | _ => none }
def clusterBelongsRow : OpenClaim := { program := "ytngdddgoplmlbaa", sum := "d7a9d0a62e45a2af42a7b8c59409afcbacc8913526c967b1d52919e11fa1afb9", func := "abugida/abugidalaw06.ClusterBelongs", spec := "clusterBelongs", unfollowed := true, recurses := true, apart := false }
def ClusterBelongsSaid : Prop := clusterBelongsRow.holds Try.pinned (OpenSpec.ofChange clusterBelongsSpec)

/-- ITS FALSE NEIGHBOUR: 'it returns false'. Refute it at one input. -/
def clusterBelongsWrong : ChangeSpec := { name := "clusterBelongs", fn := fun _ => fun
  | [d] => { results := [.lit (.bool false)], args := [d] }
  | _ => none }
def ClusterBelongsWrongFalsely : Prop := clusterBelongsRow.holds Try.pinned (OpenSpec.ofChange clusterBelongsWrong)

/-- 'abugidalaw06.ClusterBases': WHATEVER THE INPUT: true; the input reads as it did. -/
def clusterBasesSpec : ChangeSpec := { name := "clusterBases", fn := fun _ => fun
  | [d] => { results := [.lit (.bool true)], args := [d] }
  | _ => none }
def clusterBasesRow : OpenClaim := { program := "ytngdddgoplmlbaa", sum := "d7a9d0a62e45a2af42a7b8c59409afcbacc8913526c967b1d52919e11fa1afb9", func := "abugida/abugidalaw06.ClusterBases", spec := "clusterBases", unfollowed := true, recurses := true, apart := false }
def ClusterBasesSaid : Prop := clusterBasesRow.holds Try.pinned (OpenSpec.ofChange clusterBasesSpec)

/-- ITS FALSE NEIGHBOUR: 'it returns false'. Refute it at one input. -/
def clusterBasesWrong : ChangeSpec := { name := "clusterBases", fn := fun _ => fun
  | [d] => { results := [.lit (.bool false)], args := [d] }
  | _ => none }
def ClusterBasesWrongFalsely : Prop := clusterBasesRow.holds Try.pinned (OpenSpec.ofChange clusterBasesWrong)

/-- 'abugidalaw06.ClusterLines': WHATEVER THE INPUT: true; the input reads as it did. -/
def clusterLinesSpec : ChangeSpec := { name := "clusterLines", fn := fun _ => fun
  | [d1, d2] => { results := [.lit (.bool true)], args := [d1, d2] }
  | _ => none }
def clusterLinesRow : OpenClaim := { program := "ytngdddgoplmlbaa", sum := "d7a9d0a62e45a2af42a7b8c59409afcbacc8913526c967b1d52919e11fa1afb9", func := "abugida/abugidalaw06.ClusterLines", spec := "clusterLines", unfollowed := true, recurses := true, apart := false }
def ClusterLinesSaid : Prop := clusterLinesRow.holds Try.pinned (OpenSpec.ofChange clusterLinesSpec)

/-- ITS FALSE NEIGHBOUR: 'it returns false'. Refute it at one input. -/
def clusterLinesWrong : ChangeSpec := { name := "clusterLines", fn := fun _ => fun
  | [d1, d2] => { results := [.lit (.bool false)], args := [d1, d2] }
  | _ => none }
def ClusterLinesWrongFalsely : Prop := clusterLinesRow.holds Try.pinned (OpenSpec.ofChange clusterLinesWrong)

/-- 'abugidalaw06.ClusterBehind': WHATEVER THE INPUT: true; the input reads as it did. -/
def clusterBehindSpec : ChangeSpec := { name := "clusterBehind", fn := fun _ => fun
  | [d1, d2] => { results := [.lit (.bool true)], args := [d1, d2] }
  | _ => none }
def clusterBehindRow : OpenClaim := { program := "ytngdddgoplmlbaa", sum := "d7a9d0a62e45a2af42a7b8c59409afcbacc8913526c967b1d52919e11fa1afb9", func := "abugida/abugidalaw06.ClusterBehind", spec := "clusterBehind", unfollowed := true, recurses := true, apart := false }
def ClusterBehindSaid : Prop := clusterBehindRow.holds Try.pinned (OpenSpec.ofChange clusterBehindSpec)

/-- ITS FALSE NEIGHBOUR: 'it returns false'. Refute it at one input. -/
def clusterBehindWrong : ChangeSpec := { name := "clusterBehind", fn := fun _ => fun
  | [d1, d2] => { results := [.lit (.bool false)], args := [d1, d2] }
  | _ => none }
def ClusterBehindWrongFalsely : Prop := clusterBehindRow.holds Try.pinned (OpenSpec.ofChange clusterBehindWrong)

/- THE SECOND FORM. 'bulk': how many values and letters a reading holds, each counted each time it is reached (what is shared counts as often as it is met; a slice's spare places count too). A statement '..UptoSaid' is the law's where the arguments, and the package variables that the reading takes, are together of bulk at most 1048576: NARROWER than '..Said'. Prove '..Said' where nothing that the law and all that it calls make is longer than what came in: it says more and counts as full. Else prove '..UptoSaid'. A law counts once. -/
mutual
def uptoBulk {H : Type} : DataW H → Nat
  | .lit (.string bytes) => bytes.length + 1
  | .lit _ => 1
  | .nil => 1
  | .ptr d => uptoBulk d + 1
  | .slice elems spare => uptoBulkAll elems + uptoBulkAll spare + 1
  | .agg parts => uptoBulkAll parts + 1
  | .iface _ d => uptoBulk d + 1
  | .map entries => uptoBulkEntries entries + 1
  | .held _ => 1
def uptoBulkAll {H : Type} : List (DataW H) → Nat
  | [] => 0
  | d :: r => uptoBulk d + uptoBulkAll r
def uptoBulkEntries {H : Type} : List (Lit × DataW H) → Nat
  | [] => 0
  | x :: r => uptoBulkEntry x + uptoBulkEntries r
def uptoBulkEntry {H : Type} : Lit × DataW H → Nat
  | (.string bytes, d) => bytes.length + uptoBulk d + 1
  | (_, d) => uptoBulk d + 1
 end
def uptoSmall : (H : Type) → List (DataW H) → Bool := fun _ ds => decide (uptoBulkAll ds ≤ 1048576)
def OpenSpec.upto (s : _root_.Go.ChangeSpec) : _root_.Go.OpenSpec := { _root_.Go.OpenSpec.ofChange s with cond := some uptoSmall }

/-- 'abugidalaw06.ClusterSplits', WHERE WHAT IT READS IS OF BULK AT MOST 1048576: true; the input reads as it did. -/
def clusterSplitsUptoRow : OpenClaim := { program := "ytngdddgoplmlbaa", sum := "d7a9d0a62e45a2af42a7b8c59409afcbacc8913526c967b1d52919e11fa1afb9", func := "abugida/abugidalaw06.ClusterSplits", spec := "clusterSplits", unfollowed := true, recurses := true, apart := false, narrowed := true }
def ClusterSplitsUptoSaid : Prop := clusterSplitsUptoRow.holds Try.pinned (OpenSpec.upto clusterSplitsSpec)

/-- 'abugidalaw06.ClusterFinds', WHERE WHAT IT READS IS OF BULK AT MOST 1048576: true; the input reads as it did. -/
def clusterFindsUptoRow : OpenClaim := { program := "ytngdddgoplmlbaa", sum := "d7a9d0a62e45a2af42a7b8c59409afcbacc8913526c967b1d52919e11fa1afb9", func := "abugida/abugidalaw06.ClusterFinds", spec := "clusterFinds", unfollowed := true, recurses := true, apart := false, narrowed := true }
def ClusterFindsUptoSaid : Prop := clusterFindsUptoRow.holds Try.pinned (OpenSpec.upto clusterFindsSpec)

/-- 'abugidalaw06.ClusterCovers', WHERE WHAT IT READS IS OF BULK AT MOST 1048576: true; the input reads as it did. -/
def clusterCoversUptoRow : OpenClaim := { program := "ytngdddgoplmlbaa", sum := "d7a9d0a62e45a2af42a7b8c59409afcbacc8913526c967b1d52919e11fa1afb9", func := "abugida/abugidalaw06.ClusterCovers", spec := "clusterCovers", unfollowed := true, recurses := true, apart := false, narrowed := true }
def ClusterCoversUptoSaid : Prop := clusterCoversUptoRow.holds Try.pinned (OpenSpec.upto clusterCoversSpec)

/-- 'abugidalaw06.ClusterBelongs', WHERE WHAT IT READS IS OF BULK AT MOST 1048576: true; the input reads as it did. -/
def clusterBelongsUptoRow : OpenClaim := { program := "ytngdddgoplmlbaa", sum := "d7a9d0a62e45a2af42a7b8c59409afcbacc8913526c967b1d52919e11fa1afb9", func := "abugida/abugidalaw06.ClusterBelongs", spec := "clusterBelongs", unfollowed := true, recurses := true, apart := false, narrowed := true }
def ClusterBelongsUptoSaid : Prop := clusterBelongsUptoRow.holds Try.pinned (OpenSpec.upto clusterBelongsSpec)

/-- 'abugidalaw06.ClusterBases', WHERE WHAT IT READS IS OF BULK AT MOST 1048576: true; the input reads as it did. -/
def clusterBasesUptoRow : OpenClaim := { program := "ytngdddgoplmlbaa", sum := "d7a9d0a62e45a2af42a7b8c59409afcbacc8913526c967b1d52919e11fa1afb9", func := "abugida/abugidalaw06.ClusterBases", spec := "clusterBases", unfollowed := true, recurses := true, apart := false, narrowed := true }
def ClusterBasesUptoSaid : Prop := clusterBasesUptoRow.holds Try.pinned (OpenSpec.upto clusterBasesSpec)

/-- 'abugidalaw06.ClusterLines', WHERE WHAT IT READS IS OF BULK AT MOST 1048576: true; the input reads as it did. -/
def clusterLinesUptoRow : OpenClaim := { program := "ytngdddgoplmlbaa", sum := "d7a9d0a62e45a2af42a7b8c59409afcbacc8913526c967b1d52919e11fa1afb9", func := "abugida/abugidalaw06.ClusterLines", spec := "clusterLines", unfollowed := true, recurses := true, apart := false, narrowed := true }
def ClusterLinesUptoSaid : Prop := clusterLinesUptoRow.holds Try.pinned (OpenSpec.upto clusterLinesSpec)

/-- 'abugidalaw06.ClusterBehind', WHERE WHAT IT READS IS OF BULK AT MOST 1048576: true; the input reads as it did. -/
def clusterBehindUptoRow : OpenClaim := { program := "ytngdddgoplmlbaa", sum := "d7a9d0a62e45a2af42a7b8c59409afcbacc8913526c967b1d52919e11fa1afb9", func := "abugida/abugidalaw06.ClusterBehind", spec := "clusterBehind", unfollowed := true, recurses := true, apart := false, narrowed := true }
def ClusterBehindUptoSaid : Prop := clusterBehindUptoRow.holds Try.pinned (OpenSpec.upto clusterBehindSpec)

end Rows
end Go.Proofs.Ytngdddgoplmlbaa

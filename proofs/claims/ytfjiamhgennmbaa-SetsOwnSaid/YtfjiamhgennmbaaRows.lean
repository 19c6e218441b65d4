/-
  No cell of these rows narrows 'for every input' (looked for: loops, veiled, ifaces, maps, wideKeys, modest, calm, conditions, laid).
  DERIVED. THE GIVEN ROWS OF THIS SEAT. 7 by the template 'for every input the law returns true; each argument reads behind the call as it read before'; 0 by the template 'total and deterministic' (their statements: YtfjiamhgennmbaaTotals.lean).
  GIVEN WITH THE SEED: the statements are not yours to turn. If you find one false, say at which input.
  Laid BY PROGRAM, IN A SANDBOX (cutbox-rows.mjs): the forced cells as the released guide's own fill.sh prints them over the translation a4687f778f36a25c… (all of the seat's roots in one cut). By AI agents, Wed Nov 11 2026. No macro, syntax, notation, axiom, sorry.
-/
import Derived.Test.YtfjiamhgennmbaaChecked
import GoSem.Claim
import GoSem.ClaimJoined
import GoSem.ClaimMapViews
import Derived.JoinedTies
import Derived.KernelRfl
namespace Go.Proofs.Ytfjiamhgennmbaa
/- THE CELL 'sum', in the pinned program and in every row, IS THE sha256 OF THE DUMP (.gsa) THAT YtfjiamhgennmbaaProg.lean LOADS. Nothing in Lean hashes anything: it is a label: what it is worth is what the hold of that sum in a sandbox is worth. -/
noncomputable def Try.pinned : Pinned := { name := "ytfjiamhgennmbaa", sum := "a4687f778f36a25cb02d85cc06d9f643cc194b0ed50bd611c854db81b79ed9da", checked := Try.checked }
namespace Rows
def none {H : Type} : Left H := { results := [], args := [] }

/-- 'abugidalaw15.SetsMatch': WHATEVER THE INPUT: true; the input reads as it did. -/
def setsMatchSpec : ChangeSpec := { name := "setsMatch", fn := fun _ => fun
  | [d1, d2, d3] => { results := [.lit (.bool true)], args := [d1, d2, d3] }
  | _ => none }
def setsMatchRow : OpenClaim := { program := "ytfjiamhgennmbaa", sum := "a4687f778f36a25cb02d85cc06d9f643cc194b0ed50bd611c854db81b79ed9da", func := "abugida/abugidalaw15.SetsMatch", spec := "setsMatch", unfollowed := true, recurses := true, apart := false }
def SetsMatchSaid : Prop := setsMatchRow.holds Try.pinned (OpenSpec.ofChange setsMatchSpec)

/-- ITS FALSE NEIGHBOUR: 'it returns false'. Refute it at one input. -/
def setsMatchWrong : ChangeSpec := { name := "setsMatch", fn := fun _ => fun
  | [d1, d2, d3] => { results := [.lit (.bool false)], args := [d1, d2, d3] }
  | _ => none }
def SetsMatchWrongFalsely : Prop := setsMatchRow.holds Try.pinned (OpenSpec.ofChange setsMatchWrong)

/-- 'abugidalaw15.SetsRange': WHATEVER THE INPUT: true; the input reads as it did. -/
def setsRangeSpec : ChangeSpec := { name := "setsRange", fn := fun _ => fun
  | [d1, d2] => { results := [.lit (.bool true)], args := [d1, d2] }
  | _ => none }
def setsRangeRow : OpenClaim := { program := "ytfjiamhgennmbaa", sum := "a4687f778f36a25cb02d85cc06d9f643cc194b0ed50bd611c854db81b79ed9da", func := "abugida/abugidalaw15.SetsRange", spec := "setsRange", unfollowed := true, recurses := true, apart := false }
def SetsRangeSaid : Prop := setsRangeRow.holds Try.pinned (OpenSpec.ofChange setsRangeSpec)

/-- ITS FALSE NEIGHBOUR: 'it returns false'. Refute it at one input. -/
def setsRangeWrong : ChangeSpec := { name := "setsRange", fn := fun _ => fun
  | [d1, d2] => { results := [.lit (.bool false)], args := [d1, d2] }
  | _ => none }
def SetsRangeWrongFalsely : Prop := setsRangeRow.holds Try.pinned (OpenSpec.ofChange setsRangeWrong)

/-- 'abugidalaw15.SetsMembers': WHATEVER THE INPUT: true; the input reads as it did. -/
def setsMembersSpec : ChangeSpec := { name := "setsMembers", fn := fun _ => fun
  | [d1, d2, d3] => { results := [.lit (.bool true)], args := [d1, d2, d3] }
  | _ => none }
def setsMembersRow : OpenClaim := { program := "ytfjiamhgennmbaa", sum := "a4687f778f36a25cb02d85cc06d9f643cc194b0ed50bd611c854db81b79ed9da", func := "abugida/abugidalaw15.SetsMembers", spec := "setsMembers", unfollowed := true, recurses := true, apart := false }
def SetsMembersSaid : Prop := setsMembersRow.holds Try.pinned (OpenSpec.ofChange setsMembersSpec)

/-- ITS FALSE NEIGHBOUR: 'it returns false'. Refute it at one input. -/
def setsMembersWrong : ChangeSpec := { name := "setsMembers", fn := fun _ => fun
  | [d1, d2, d3] => { results := [.lit (.bool false)], args := [d1, d2, d3] }
  | _ => none }
def SetsMembersWrongFalsely : Prop := setsMembersRow.holds Try.pinned (OpenSpec.ofChange setsMembersWrong)

/-- 'abugidalaw15.SetsRules': WHATEVER THE INPUT: true; the input reads as it did. -/
def setsRulesSpec : ChangeSpec := { name := "setsRules", fn := fun _ => fun
  | [d1, d2] => { results := [.lit (.bool true)], args := [d1, d2] }
  | _ => none }
def setsRulesRow : OpenClaim := { program := "ytfjiamhgennmbaa", sum := "a4687f778f36a25cb02d85cc06d9f643cc194b0ed50bd611c854db81b79ed9da", func := "abugida/abugidalaw15.SetsRules", spec := "setsRules", unfollowed := true, recurses := true, apart := false }
def SetsRulesSaid : Prop := setsRulesRow.holds Try.pinned (OpenSpec.ofChange setsRulesSpec)

/-- ITS FALSE NEIGHBOUR: 'it returns false'. Refute it at one input. -/
def setsRulesWrong : ChangeSpec := { name := "setsRules", fn := fun _ => fun
  | [d1, d2] => { results := [.lit (.bool false)], args := [d1, d2] }
  | _ => none }
def SetsRulesWrongFalsely : Prop := setsRulesRow.holds Try.pinned (OpenSpec.ofChange setsRulesWrong)

/-- 'abugidalaw15.SetsThree': WHATEVER THE INPUT: true; the input reads as it did. -/
def setsThreeSpec : ChangeSpec := { name := "setsThree", fn := fun _ => fun
  | [d1, d2, d3] => { results := [.lit (.bool true)], args := [d1, d2, d3] }
  | _ => none }
def setsThreeRow : OpenClaim := { program := "ytfjiamhgennmbaa", sum := "a4687f778f36a25cb02d85cc06d9f643cc194b0ed50bd611c854db81b79ed9da", func := "abugida/abugidalaw15.SetsThree", spec := "setsThree", unfollowed := true, recurses := true, apart := false }
def SetsThreeSaid : Prop := setsThreeRow.holds Try.pinned (OpenSpec.ofChange setsThreeSpec)

/-- ITS FALSE NEIGHBOUR: 'it returns false'. Refute it at one input. -/
def setsThreeWrong : ChangeSpec := { name := "setsThree", fn := fun _ => fun
  | [d1, d2, d3] => { results := [.lit (.bool false)], args := [d1, d2, d3] }
  | _ => none }
def SetsThreeWrongFalsely : Prop := setsThreeRow.holds Try.pinned (OpenSpec.ofChange setsThreeWrong)

/-- 'abugidalaw15.SetsSpans': WHATEVER THE INPUT: true; the input reads as it did. -/
def setsSpansSpec : ChangeSpec := { name := "setsSpans", fn := fun _ => fun
  | [d1, d2] => { results := [.lit (.bool true)], args := [d1, d2] }
  | _ => none }
def setsSpansRow : OpenClaim := { program := "ytfjiamhgennmbaa", sum := "a4687f778f36a25cb02d85cc06d9f643cc194b0ed50bd611c854db81b79ed9da", func := "abugida/abugidalaw15.SetsSpans", spec := "setsSpans", unfollowed := true, recurses := true, apart := false }
def SetsSpansSaid : Prop := setsSpansRow.holds Try.pinned (OpenSpec.ofChange setsSpansSpec)

/-- ITS FALSE NEIGHBOUR: 'it returns false'. Refute it at one input. -/
def setsSpansWrong : ChangeSpec := { name := "setsSpans", fn := fun _ => fun
  | [d1, d2] => { results := [.lit (.bool false)], args := [d1, d2] }
  | _ => none }
def SetsSpansWrongFalsely : Prop := setsSpansRow.holds Try.pinned (OpenSpec.ofChange setsSpansWrong)

/-- 'abugidalaw15.SetsOwn': WHATEVER THE INPUT: true; the input reads as it did. -/
def setsOwnSpec : ChangeSpec := { name := "setsOwn", fn := fun _ => fun
  | [d1, d2] => { results := [.lit (.bool true)], args := [d1, d2] }
  | _ => none }
def setsOwnRow : OpenClaim := { program := "ytfjiamhgennmbaa", sum := "a4687f778f36a25cb02d85cc06d9f643cc194b0ed50bd611c854db81b79ed9da", func := "abugida/abugidalaw15.SetsOwn", spec := "setsOwn", unfollowed := true, recurses := true, apart := false }
def SetsOwnSaid : Prop := setsOwnRow.holds Try.pinned (OpenSpec.ofChange setsOwnSpec)

/-- ITS FALSE NEIGHBOUR: 'it returns false'. Refute it at one input. -/
def setsOwnWrong : ChangeSpec := { name := "setsOwn", fn := fun _ => fun
  | [d1, d2] => { results := [.lit (.bool false)], args := [d1, d2] }
  | _ => none }
def SetsOwnWrongFalsely : Prop := setsOwnRow.holds Try.pinned (OpenSpec.ofChange setsOwnWrong)

/- THE SECOND FORM. 'bulk': how many values and letters a reading holds, each counted each time it is reached (what is shared counts as often as it is met; a slice's spare places count too). A statement '..UptoSaid' is the law's where the arguments, and the package variables that the reading takes, are together of bulk at most 1048576: NARROWER than '..Said'. Prove '..Said' where nothing that the law and all that it calls make is longer than what came in: it says more and counts as full. Else prove '..UptoSaid'. A law counts once. -/
mutual
def uptoBulk {H : Type} : DataW H → Nat
  | .lit (.string bytes) => bytes.length + 1
  | .lit _ => 1
  | .nil => 1
  | .ptr d => uptoBulk d + 1
  | .slice elems spare => uptoBulkAll elems + uptoBulkAll spare + 1
  | .agg parts => uptoBulkAll parts + 1
  | .iface _ d => uptoBulk d + 1
  | .map entries => uptoBulkEntries entries + 1
  | .held _ => 1
def uptoBulkAll {H : Type} : List (DataW H) → Nat
  | [] => 0
  | d :: r => uptoBulk d + uptoBulkAll r
def uptoBulkEntries {H : Type} : List (Lit × DataW H) → Nat
  | [] => 0
  | x :: r => uptoBulkEntry x + uptoBulkEntries r
def uptoBulkEntry {H : Type} : Lit × DataW H → Nat
  | (.string bytes, d) => bytes.length + uptoBulk d + 1
  | (_, d) => uptoBulk d + 1
 end
def uptoSmall : (H : Type) → List (DataW H) → Bool := fun _ ds => decide (uptoBulkAll ds ≤ 1048576)
def OpenSpec.upto (s : _root_.Go.ChangeSpec) : _root_.Go.OpenSpec := { _root_.Go.OpenSpec.ofChange s with cond := some uptoSmall }

/-- 'abugidalaw15.SetsMatch', WHERE WHAT IT READS IS OF BULK AT MOST 1048576: true; the input reads as it did. -/
def setsMatchUptoRow : OpenClaim := { program := "ytfjiamhgennmbaa", sum := "a4687f778f36a25cb02d85cc06d9f643cc194b0ed50bd611c854db81b79ed9da", func := "abugida/abugidalaw15.SetsMatch", spec := "setsMatch", unfollowed := true, recurses := true, apart := false, narrowed := true }
def SetsMatchUptoSaid : Prop := setsMatchUptoRow.holds Try.pinned (OpenSpec.upto setsMatchSpec)

/-- 'abugidalaw15.SetsRange', WHERE WHAT IT READS IS OF BULK AT MOST 1048576: true; the input reads as it did. -/
def setsRangeUptoRow : OpenClaim := { program := "ytfjiamhgennmbaa", sum := "a4687f778f36a25cb02d85cc06d9f643cc194b0ed50bd611c854db81b79ed9da", func := "abugida/abugidalaw15.SetsRange", spec := "setsRange", unfollowed := true, recurses := true, apart := false, narrowed := true }
def SetsRangeUptoSaid : Prop := setsRangeUptoRow.holds Try.pinned (OpenSpec.upto setsRangeSpec)

/-- 'abugidalaw15.SetsMembers', WHERE WHAT IT READS IS OF BULK AT MOST 1048576: true; the input reads as it did. -/
def setsMembersUptoRow : OpenClaim := { program := "ytfjiamhgennmbaa", sum := "a4687f778f36a25cb02d85cc06d9f643cc194b0ed50bd611c854db81b79ed9da", func := "abugida/abugidalaw15.SetsMembers", spec := "setsMembers", unfollowed := true, recurses := true, apart := false, narrowed := true }
def SetsMembersUptoSaid : Prop := setsMembersUptoRow.holds Try.pinned (OpenSpec.upto setsMembersSpec)

/-- 'abugidalaw15.SetsRules', WHERE WHAT IT READS IS OF BULK AT MOST 1048576: true; the input reads as it did. -/
def setsRulesUptoRow : OpenClaim := { program := "ytfjiamhgennmbaa", sum := "a4687f778f36a25cb02d85cc06d9f643cc194b0ed50bd611c854db81b79ed9da", func := "abugida/abugidalaw15.SetsRules", spec := "setsRules", unfollowed := true, recurses := true, apart := false, narrowed := true }
def SetsRulesUptoSaid : Prop := setsRulesUptoRow.holds Try.pinned (OpenSpec.upto setsRulesSpec)

/-- 'abugidalaw15.SetsThree', WHERE WHAT IT READS IS OF BULK AT MOST 1048576: true; the input reads as it did. -/
def setsThreeUptoRow : OpenClaim := { program := "ytfjiamhgennmbaa", sum := "a4687f778f36a25cb02d85cc06d9f643cc194b0ed50bd611c854db81b79ed9da", func := "abugida/abugidalaw15.SetsThree", spec := "setsThree", unfollowed := true, recurses := true, apart := false, narrowed := true }
def SetsThreeUptoSaid : Prop := setsThreeUptoRow.holds Try.pinned (OpenSpec.upto setsThreeSpec)

/-- 'abugidalaw15.SetsSpans', WHERE WHAT IT READS IS OF BULK AT MOST 1048576: true; the input reads as it did. -/
def setsSpansUptoRow : OpenClaim := { program := "ytfjiamhgennmbaa", sum := "a4687f778f36a25cb02d85cc06d9f643cc194b0ed50bd611c854db81b79ed9da", func := "abugida/abugidalaw15.SetsSpans", spec := "setsSpans", unfollowed := true, recurses := true, apart := false, narrowed := true }
def SetsSpansUptoSaid : Prop := setsSpansUptoRow.holds Try.pinned (OpenSpec.upto setsSpansSpec)

/-- 'abugidalaw15.SetsOwn', WHERE WHAT IT READS IS OF BULK AT MOST 1048576: true; the input reads as it did. -/
def setsOwnUptoRow : OpenClaim := { program := "ytfjiamhgennmbaa", sum := "a4687f778f36a25cb02d85cc06d9f643cc194b0ed50bd611c854db81b79ed9da", func := "abugida/abugidalaw15.SetsOwn", spec := "setsOwn", unfollowed := true, recurses := true, apart := false, narrowed := true }
def SetsOwnUptoSaid : Prop := setsOwnUptoRow.holds Try.pinned (OpenSpec.upto setsOwnSpec)

end Rows
end Go.Proofs.Ytfjiamhgennmbaa

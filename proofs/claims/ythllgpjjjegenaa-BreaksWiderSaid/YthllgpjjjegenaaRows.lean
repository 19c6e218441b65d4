/-
  No cell of these rows narrows 'for every input' (looked for: loops, veiled, ifaces, maps, wideKeys, modest, calm, conditions, laid).
  DERIVED. THE GIVEN ROWS OF THIS SEAT. 6 by the template 'for every input the law returns true; each argument reads behind the call as it read before'; 0 by the template 'total and deterministic' (their statements: YthllgpjjjegenaaTotals.lean).
  GIVEN WITH THE SEED: the statements are not yours to turn. If you find one false, say at which input.
  Laid BY PROGRAM, IN A SANDBOX (cutbox-rows.mjs): the forced cells as the released guide's own fill.sh prints them over the translation bce4a7abd3eb7dbb… (all of the seat's roots in one cut). By AI agents, Wed Nov 11 2026. No macro, syntax, notation, axiom, sorry.
-/
import Derived.Test.YthllgpjjjegenaaChecked
import GoSem.Claim
import GoSem.ClaimJoined
import GoSem.ClaimMapViews
import Derived.JoinedTies
import Derived.KernelRfl
namespace Go.Proofs.Ythllgpjjjegenaa
/- THE CELL 'sum', in the pinned program and in every row, IS THE sha256 OF THE DUMP (.gsa) THAT YthllgpjjjegenaaProg.lean LOADS. Nothing in Lean hashes anything: it is a label: what it is worth is what the hold of that sum in a sandbox is worth. -/
noncomputable def Try.pinned : Pinned := { name := "ythllgpjjjegenaa", sum := "bce4a7abd3eb7dbb59e38035dc9c91dbafd9a405e9e6c339ebe64260b6dd0e94", checked := Try.checked }
namespace Rows
def none {H : Type} : Left H := { results := [], args := [] }

/-- 'abugidalaw08.BreaksMay': WHATEVER THE INPUT: true; the input reads as it did. -/
def breaksMaySpec : ChangeSpec := { name := "breaksMay", fn := fun _ => fun
  | [d1, d2] => { results := [.lit (.bool true)], args := [d1, d2] }
  | _ => none }
def breaksMayRow : OpenClaim := { program := "ythllgpjjjegenaa", sum := "bce4a7abd3eb7dbb59e38035dc9c91dbafd9a405e9e6c339ebe64260b6dd0e94", func := "abugida/abugidalaw08.BreaksMay", spec := "breaksMay", unfollowed := true, recurses := true, apart := false }
def BreaksMaySaid : Prop := breaksMayRow.holds Try.pinned (OpenSpec.ofChange breaksMaySpec)

/-- ITS FALSE NEIGHBOUR: 'it returns false'. Refute it at one input. -/
def breaksMayWrong : ChangeSpec := { name := "breaksMay", fn := fun _ => fun
  | [d1, d2] => { results := [.lit (.bool false)], args := [d1, d2] }
  | _ => none }
def BreaksMayWrongFalsely : Prop := breaksMayRow.holds Try.pinned (OpenSpec.ofChange breaksMayWrong)

/-- 'abugidalaw08.BreaksHeads': WHATEVER THE INPUT: true; the input reads as it did. -/
def breaksHeadsSpec : ChangeSpec := { name := "breaksHeads", fn := fun _ => fun
  | [d] => { results := [.lit (.bool true)], args := [d] }
  | _ => none }
def breaksHeadsRow : OpenClaim := { program := "ythllgpjjjegenaa", sum := "bce4a7abd3eb7dbb59e38035dc9c91dbafd9a405e9e6c339ebe64260b6dd0e94", func := "abugida/abugidalaw08.BreaksHeads", spec := "breaksHeads", unfollowed := true, recurses := true, apart := false }
def BreaksHeadsSaid : Prop := breaksHeadsRow.holds Try.pinned (OpenSpec.ofChange breaksHeadsSpec)

/-- ITS FALSE NEIGHBOUR: 'it returns false'. Refute it at one input. -/
def breaksHeadsWrong : ChangeSpec := { name := "breaksHeads", fn := fun _ => fun
  | [d] => { results := [.lit (.bool false)], args := [d] }
  | _ => none }
def BreaksHeadsWrongFalsely : Prop := breaksHeadsRow.holds Try.pinned (OpenSpec.ofChange breaksHeadsWrong)

/-- 'abugidalaw08.BreaksFills': WHATEVER THE INPUT: true; the input reads as it did. -/
def breaksFillsSpec : ChangeSpec := { name := "breaksFills", fn := fun _ => fun
  | [d] => { results := [.lit (.bool true)], args := [d] }
  | _ => none }
def breaksFillsRow : OpenClaim := { program := "ythllgpjjjegenaa", sum := "bce4a7abd3eb7dbb59e38035dc9c91dbafd9a405e9e6c339ebe64260b6dd0e94", func := "abugida/abugidalaw08.BreaksFills", spec := "breaksFills", unfollowed := true, recurses := true, apart := false }
def BreaksFillsSaid : Prop := breaksFillsRow.holds Try.pinned (OpenSpec.ofChange breaksFillsSpec)

/-- ITS FALSE NEIGHBOUR: 'it returns false'. Refute it at one input. -/
def breaksFillsWrong : ChangeSpec := { name := "breaksFills", fn := fun _ => fun
  | [d] => { results := [.lit (.bool false)], args := [d] }
  | _ => none }
def BreaksFillsWrongFalsely : Prop := breaksFillsRow.holds Try.pinned (OpenSpec.ofChange breaksFillsWrong)

/-- 'abugidalaw08.BreaksGreedy': WHATEVER THE INPUT: true; the input reads as it did. -/
def breaksGreedySpec : ChangeSpec := { name := "breaksGreedy", fn := fun _ => fun
  | [d] => { results := [.lit (.bool true)], args := [d] }
  | _ => none }
def breaksGreedyRow : OpenClaim := { program := "ythllgpjjjegenaa", sum := "bce4a7abd3eb7dbb59e38035dc9c91dbafd9a405e9e6c339ebe64260b6dd0e94", func := "abugida/abugidalaw08.BreaksGreedy", spec := "breaksGreedy", unfollowed := true, recurses := true, apart := false }
def BreaksGreedySaid : Prop := breaksGreedyRow.holds Try.pinned (OpenSpec.ofChange breaksGreedySpec)

/-- ITS FALSE NEIGHBOUR: 'it returns false'. Refute it at one input. -/
def breaksGreedyWrong : ChangeSpec := { name := "breaksGreedy", fn := fun _ => fun
  | [d] => { results := [.lit (.bool false)], args := [d] }
  | _ => none }
def BreaksGreedyWrongFalsely : Prop := breaksGreedyRow.holds Try.pinned (OpenSpec.ofChange breaksGreedyWrong)

/-- 'abugidalaw08.BreaksWider': WHATEVER THE INPUT: true; the input reads as it did. -/
def breaksWiderSpec : ChangeSpec := { name := "breaksWider", fn := fun _ => fun
  | [d1, d2] => { results := [.lit (.bool true)], args := [d1, d2] }
  | _ => none }
def breaksWiderRow : OpenClaim := { program := "ythllgpjjjegenaa", sum := "bce4a7abd3eb7dbb59e38035dc9c91dbafd9a405e9e6c339ebe64260b6dd0e94", func := "abugida/abugidalaw08.BreaksWider", spec := "breaksWider", unfollowed := true, recurses := true, apart := false }
def BreaksWiderSaid : Prop := breaksWiderRow.holds Try.pinned (OpenSpec.ofChange breaksWiderSpec)

/-- ITS FALSE NEIGHBOUR: 'it returns false'. Refute it at one input. -/
def breaksWiderWrong : ChangeSpec := { name := "breaksWider", fn := fun _ => fun
  | [d1, d2] => { results := [.lit (.bool false)], args := [d1, d2] }
  | _ => none }
def BreaksWiderWrongFalsely : Prop := breaksWiderRow.holds Try.pinned (OpenSpec.ofChange breaksWiderWrong)

/-- 'abugidalaw08.BreaksAlone': WHATEVER THE INPUT: true; the input reads as it did. -/
def breaksAloneSpec : ChangeSpec := { name := "breaksAlone", fn := fun _ => fun
  | [d1, d2] => { results := [.lit (.bool true)], args := [d1, d2] }
  | _ => none }
def breaksAloneRow : OpenClaim := { program := "ythllgpjjjegenaa", sum := "bce4a7abd3eb7dbb59e38035dc9c91dbafd9a405e9e6c339ebe64260b6dd0e94", func := "abugida/abugidalaw08.BreaksAlone", spec := "breaksAlone", unfollowed := true, recurses := true, apart := false }
def BreaksAloneSaid : Prop := breaksAloneRow.holds Try.pinned (OpenSpec.ofChange breaksAloneSpec)

/-- ITS FALSE NEIGHBOUR: 'it returns false'. Refute it at one input. -/
def breaksAloneWrong : ChangeSpec := { name := "breaksAlone", fn := fun _ => fun
  | [d1, d2] => { results := [.lit (.bool false)], args := [d1, d2] }
  | _ => none }
def BreaksAloneWrongFalsely : Prop := breaksAloneRow.holds Try.pinned (OpenSpec.ofChange breaksAloneWrong)

/- THE SECOND FORM. 'bulk': how many values and letters a reading holds, each counted each time it is reached (what is shared counts as often as it is met; a slice's spare places count too). A statement '..UptoSaid' is the law's where the arguments, and the package variables that the reading takes, are together of bulk at most 1048576: NARROWER than '..Said'. Prove '..Said' where nothing that the law and all that it calls make is longer than what came in: it says more and counts as full. Else prove '..UptoSaid'. A law counts once. -/
mutual
def uptoBulk {H : Type} : DataW H → Nat
  | .lit (.string bytes) => bytes.length + 1
  | .lit _ => 1
  | .nil => 1
  | .ptr d => uptoBulk d + 1
  | .slice elems spare => uptoBulkAll elems + uptoBulkAll spare + 1
  | .agg parts => uptoBulkAll parts + 1
  | .iface _ d => uptoBulk d + 1
  | .map entries => uptoBulkEntries entries + 1
  | .held _ => 1
def uptoBulkAll {H : Type} : List (DataW H) → Nat
  | [] => 0
  | d :: r => uptoBulk d + uptoBulkAll r
def uptoBulkEntries {H : Type} : List (Lit × DataW H) → Nat
  | [] => 0
  | x :: r => uptoBulkEntry x + uptoBulkEntries r
def uptoBulkEntry {H : Type} : Lit × DataW H → Nat
  | (.string bytes, d) => bytes.length + uptoBulk d + 1
  | (_, d) => uptoBulk d + 1
 end
def uptoSmall : (H : Type) → List (DataW H) → Bool := fun _ ds => decide (uptoBulkAll ds ≤ 1048576)
def OpenSpec.upto (s : _root_.Go.ChangeSpec) : _root_.Go.OpenSpec := { _root_.Go.OpenSpec.ofChange s with cond := some uptoSmall }

/-- 'abugidalaw08.BreaksMay', WHERE WHAT IT READS IS OF BULK AT MOST 1048576: true; the input reads as it did. -/
def breaksMayUptoRow : OpenClaim := { program := "ythllgpjjjegenaa", sum := "bce4a7abd3eb7dbb59e38035dc9c91dbafd9a405e9e6c339ebe64260b6dd0e94", func := "abugida/abugidalaw08.BreaksMay", spec := "breaksMay", unfollowed := true, recurses := true, apart := false, narrowed := true }
def BreaksMayUptoSaid : Prop := breaksMayUptoRow.holds Try.pinned (OpenSpec.upto breaksMaySpec)

/-- 'abugidalaw08.BreaksHeads', WHERE WHAT IT READS IS OF BULK AT MOST 1048576: true; the input reads as it did. -/
def breaksHeadsUptoRow : OpenClaim := { program := "ythllgpjjjegenaa", sum := "bce4a7abd3eb7dbb59e38035dc9c91dbafd9a405e9e6c339ebe64260b6dd0e94", func := "abugida/abugidalaw08.BreaksHeads", spec := "breaksHeads", unfollowed := true, recurses := true, apart := false, narrowed := true }
def BreaksHeadsUptoSaid : Prop := breaksHeadsUptoRow.holds Try.pinned (OpenSpec.upto breaksHeadsSpec)

/-- 'abugidalaw08.BreaksFills', WHERE WHAT IT READS IS OF BULK AT MOST 1048576: true; the input reads as it did. -/
def breaksFillsUptoRow : OpenClaim := { program := "ythllgpjjjegenaa", sum := "bce4a7abd3eb7dbb59e38035dc9c91dbafd9a405e9e6c339ebe64260b6dd0e94", func := "abugida/abugidalaw08.BreaksFills", spec := "breaksFills", unfollowed := true, recurses := true, apart := false, narrowed := true }
def BreaksFillsUptoSaid : Prop := breaksFillsUptoRow.holds Try.pinned (OpenSpec.upto breaksFillsSpec)

/-- 'abugidalaw08.BreaksGreedy', WHERE WHAT IT READS IS OF BULK AT MOST 1048576: true; the input reads as it did. -/
def breaksGreedyUptoRow : OpenClaim := { program := "ythllgpjjjegenaa", sum := "bce4a7abd3eb7dbb59e38035dc9c91dbafd9a405e9e6c339ebe64260b6dd0e94", func := "abugida/abugidalaw08.BreaksGreedy", spec := "breaksGreedy", unfollowed := true, recurses := true, apart := false, narrowed := true }
def BreaksGreedyUptoSaid : Prop := breaksGreedyUptoRow.holds Try.pinned (OpenSpec.upto breaksGreedySpec)

/-- 'abugidalaw08.BreaksWider', WHERE WHAT IT READS IS OF BULK AT MOST 1048576: true; the input reads as it did. -/
def breaksWiderUptoRow : OpenClaim := { program := "ythllgpjjjegenaa", sum := "bce4a7abd3eb7dbb59e38035dc9c91dbafd9a405e9e6c339ebe64260b6dd0e94", func := "abugida/abugidalaw08.BreaksWider", spec := "breaksWider", unfollowed := true, recurses := true, apart := false, narrowed := true }
def BreaksWiderUptoSaid : Prop := breaksWiderUptoRow.holds Try.pinned (OpenSpec.upto breaksWiderSpec)

/-- 'abugidalaw08.BreaksAlone', WHERE WHAT IT READS IS OF BULK AT MOST 1048576: true; the input reads as it did. -/
def breaksAloneUptoRow : OpenClaim := { program := "ythllgpjjjegenaa", sum := "bce4a7abd3eb7dbb59e38035dc9c91dbafd9a405e9e6c339ebe64260b6dd0e94", func := "abugida/abugidalaw08.BreaksAlone", spec := "breaksAlone", unfollowed := true, recurses := true, apart := false, narrowed := true }
def BreaksAloneUptoSaid : Prop := breaksAloneUptoRow.holds Try.pinned (OpenSpec.upto breaksAloneSpec)

end Rows
end Go.Proofs.Ythllgpjjjegenaa

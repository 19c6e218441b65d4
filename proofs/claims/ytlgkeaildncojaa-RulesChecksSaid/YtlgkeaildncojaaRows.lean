/-
  No cell of these rows narrows 'for every input' (looked for: loops, veiled, ifaces, maps, wideKeys, modest, calm, conditions, laid).
  DERIVED. THE GIVEN ROWS OF THIS SEAT. 8 by the template 'for every input the law returns true; each argument reads behind the call as it read before'; 0 by the template 'total and deterministic' (their statements: YtlgkeaildncojaaTotals.lean).
  GIVEN WITH THE SEED: the statements are not yours to turn. If you find one false, say at which input.
  Laid BY PROGRAM, IN A SANDBOX (cutbox-rows.mjs): the forced cells as the released guide's own fill.sh prints them over the translation c6041b297cd3ee55… (all of the seat's roots in one cut). By AI agents, Wed Nov 11 2026. No macro, syntax, notation, axiom, sorry.
-/
import Derived.Test.YtlgkeaildncojaaChecked
import GoSem.Claim
import GoSem.ClaimJoined
import GoSem.ClaimMapViews
import Derived.JoinedTies
import Derived.KernelRfl
namespace Go.Proofs.Ytlgkeaildncojaa
/- THE CELL 'sum', in the pinned program and in every row, IS THE sha256 OF THE DUMP (.gsa) THAT YtlgkeaildncojaaProg.lean LOADS. Nothing in Lean hashes anything: it is a label: what it is worth is what the hold of that sum in a sandbox is worth. -/
noncomputable def Try.pinned : Pinned := { name := "ytlgkeaildncojaa", sum := "c6041b297cd3ee559ec968bebe4e5c30c64691bb56370edc461afeca67383063", checked := Try.checked }
namespace Rows
def none {H : Type} : Left H := { results := [], args := [] }

/-- 'abugidalaw16.RulesChecks': WHATEVER THE INPUT: true; the input reads as it did. -/
def rulesChecksSpec : ChangeSpec := { name := "rulesChecks", fn := fun _ => fun
  | [d1, d2, d3] => { results := [.lit (.bool true)], args := [d1, d2, d3] }
  | _ => none }
def rulesChecksRow : OpenClaim := { program := "ytlgkeaildncojaa", sum := "c6041b297cd3ee559ec968bebe4e5c30c64691bb56370edc461afeca67383063", func := "abugida/abugidalaw16.RulesChecks", spec := "rulesChecks", unfollowed := true, recurses := true, apart := false }
def RulesChecksSaid : Prop := rulesChecksRow.holds Try.pinned (OpenSpec.ofChange rulesChecksSpec)

/-- ITS FALSE NEIGHBOUR: 'it returns false'. Refute it at one input. -/
def rulesChecksWrong : ChangeSpec := { name := "rulesChecks", fn := fun _ => fun
  | [d1, d2, d3] => { results := [.lit (.bool false)], args := [d1, d2, d3] }
  | _ => none }
def RulesChecksWrongFalsely : Prop := rulesChecksRow.holds Try.pinned (OpenSpec.ofChange rulesChecksWrong)

/-- 'abugidalaw16.RulesMatches': WHATEVER THE INPUT: true; the input reads as it did. -/
def rulesMatchesSpec : ChangeSpec := { name := "rulesMatches", fn := fun _ => fun
  | [d1, d2, d3] => { results := [.lit (.bool true)], args := [d1, d2, d3] }
  | _ => none }
def rulesMatchesRow : OpenClaim := { program := "ytlgkeaildncojaa", sum := "c6041b297cd3ee559ec968bebe4e5c30c64691bb56370edc461afeca67383063", func := "abugida/abugidalaw16.RulesMatches", spec := "rulesMatches", unfollowed := true, recurses := true, apart := false }
def RulesMatchesSaid : Prop := rulesMatchesRow.holds Try.pinned (OpenSpec.ofChange rulesMatchesSpec)

/-- ITS FALSE NEIGHBOUR: 'it returns false'. Refute it at one input. -/
def rulesMatchesWrong : ChangeSpec := { name := "rulesMatches", fn := fun _ => fun
  | [d1, d2, d3] => { results := [.lit (.bool false)], args := [d1, d2, d3] }
  | _ => none }
def RulesMatchesWrongFalsely : Prop := rulesMatchesRow.holds Try.pinned (OpenSpec.ofChange rulesMatchesWrong)

/-- 'abugidalaw16.RulesClusters': WHATEVER THE INPUT: true; the input reads as it did. -/
def rulesClustersSpec : ChangeSpec := { name := "rulesClusters", fn := fun _ => fun
  | [d] => { results := [.lit (.bool true)], args := [d] }
  | _ => none }
def rulesClustersRow : OpenClaim := { program := "ytlgkeaildncojaa", sum := "c6041b297cd3ee559ec968bebe4e5c30c64691bb56370edc461afeca67383063", func := "abugida/abugidalaw16.RulesClusters", spec := "rulesClusters", unfollowed := true, recurses := true, apart := false }
def RulesClustersSaid : Prop := rulesClustersRow.holds Try.pinned (OpenSpec.ofChange rulesClustersSpec)

/-- ITS FALSE NEIGHBOUR: 'it returns false'. Refute it at one input. -/
def rulesClustersWrong : ChangeSpec := { name := "rulesClusters", fn := fun _ => fun
  | [d] => { results := [.lit (.bool false)], args := [d] }
  | _ => none }
def RulesClustersWrongFalsely : Prop := rulesClustersRow.holds Try.pinned (OpenSpec.ofChange rulesClustersWrong)

/-- 'abugidalaw16.RulesCalls': WHATEVER THE INPUT: true; the input reads as it did. -/
def rulesCallsSpec : ChangeSpec := { name := "rulesCalls", fn := fun _ => fun
  | [d] => { results := [.lit (.bool true)], args := [d] }
  | _ => none }
def rulesCallsRow : OpenClaim := { program := "ytlgkeaildncojaa", sum := "c6041b297cd3ee559ec968bebe4e5c30c64691bb56370edc461afeca67383063", func := "abugida/abugidalaw16.RulesCalls", spec := "rulesCalls", unfollowed := true, recurses := true, apart := false }
def RulesCallsSaid : Prop := rulesCallsRow.holds Try.pinned (OpenSpec.ofChange rulesCallsSpec)

/-- ITS FALSE NEIGHBOUR: 'it returns false'. Refute it at one input. -/
def rulesCallsWrong : ChangeSpec := { name := "rulesCalls", fn := fun _ => fun
  | [d] => { results := [.lit (.bool false)], args := [d] }
  | _ => none }
def RulesCallsWrongFalsely : Prop := rulesCallsRow.holds Try.pinned (OpenSpec.ofChange rulesCallsWrong)

/-- 'abugidalaw16.RulesWork': WHATEVER THE INPUT: true; the input reads as it did. -/
def rulesWorkSpec : ChangeSpec := { name := "rulesWork", fn := fun _ => fun
  | [d] => { results := [.lit (.bool true)], args := [d] }
  | _ => none }
def rulesWorkRow : OpenClaim := { program := "ytlgkeaildncojaa", sum := "c6041b297cd3ee559ec968bebe4e5c30c64691bb56370edc461afeca67383063", func := "abugida/abugidalaw16.RulesWork", spec := "rulesWork", unfollowed := true, recurses := true, apart := false }
def RulesWorkSaid : Prop := rulesWorkRow.holds Try.pinned (OpenSpec.ofChange rulesWorkSpec)

/-- ITS FALSE NEIGHBOUR: 'it returns false'. Refute it at one input. -/
def rulesWorkWrong : ChangeSpec := { name := "rulesWork", fn := fun _ => fun
  | [d] => { results := [.lit (.bool false)], args := [d] }
  | _ => none }
def RulesWorkWrongFalsely : Prop := rulesWorkRow.holds Try.pinned (OpenSpec.ofChange rulesWorkWrong)

/-- 'abugidalaw16.RulesNone': WHATEVER THE INPUT: true; the input reads as it did. -/
def rulesNoneSpec : ChangeSpec := { name := "rulesNone", fn := fun _ => fun
  | [d] => { results := [.lit (.bool true)], args := [d] }
  | _ => none }
def rulesNoneRow : OpenClaim := { program := "ytlgkeaildncojaa", sum := "c6041b297cd3ee559ec968bebe4e5c30c64691bb56370edc461afeca67383063", func := "abugida/abugidalaw16.RulesNone", spec := "rulesNone", unfollowed := true, recurses := true, apart := false }
def RulesNoneSaid : Prop := rulesNoneRow.holds Try.pinned (OpenSpec.ofChange rulesNoneSpec)

/-- ITS FALSE NEIGHBOUR: 'it returns false'. Refute it at one input. -/
def rulesNoneWrong : ChangeSpec := { name := "rulesNone", fn := fun _ => fun
  | [d] => { results := [.lit (.bool false)], args := [d] }
  | _ => none }
def RulesNoneWrongFalsely : Prop := rulesNoneRow.holds Try.pinned (OpenSpec.ofChange rulesNoneWrong)

/-- 'abugidalaw16.RulesEach': WHATEVER THE INPUT: true; the input reads as it did. -/
def rulesEachSpec : ChangeSpec := { name := "rulesEach", fn := fun _ => fun
  | [d1, d2, d3] => { results := [.lit (.bool true)], args := [d1, d2, d3] }
  | _ => none }
def rulesEachRow : OpenClaim := { program := "ytlgkeaildncojaa", sum := "c6041b297cd3ee559ec968bebe4e5c30c64691bb56370edc461afeca67383063", func := "abugida/abugidalaw16.RulesEach", spec := "rulesEach", unfollowed := true, recurses := true, apart := false }
def RulesEachSaid : Prop := rulesEachRow.holds Try.pinned (OpenSpec.ofChange rulesEachSpec)

/-- ITS FALSE NEIGHBOUR: 'it returns false'. Refute it at one input. -/
def rulesEachWrong : ChangeSpec := { name := "rulesEach", fn := fun _ => fun
  | [d1, d2, d3] => { results := [.lit (.bool false)], args := [d1, d2, d3] }
  | _ => none }
def RulesEachWrongFalsely : Prop := rulesEachRow.holds Try.pinned (OpenSpec.ofChange rulesEachWrong)

/-- 'abugidalaw16.RulesFirst': WHATEVER THE INPUT: true; the input reads as it did. -/
def rulesFirstSpec : ChangeSpec := { name := "rulesFirst", fn := fun _ => fun
  | [d] => { results := [.lit (.bool true)], args := [d] }
  | _ => none }
def rulesFirstRow : OpenClaim := { program := "ytlgkeaildncojaa", sum := "c6041b297cd3ee559ec968bebe4e5c30c64691bb56370edc461afeca67383063", func := "abugida/abugidalaw16.RulesFirst", spec := "rulesFirst", unfollowed := true, recurses := true, apart := false }
def RulesFirstSaid : Prop := rulesFirstRow.holds Try.pinned (OpenSpec.ofChange rulesFirstSpec)

/-- ITS FALSE NEIGHBOUR: 'it returns false'. Refute it at one input. -/
def rulesFirstWrong : ChangeSpec := { name := "rulesFirst", fn := fun _ => fun
  | [d] => { results := [.lit (.bool false)], args := [d] }
  | _ => none }
def RulesFirstWrongFalsely : Prop := rulesFirstRow.holds Try.pinned (OpenSpec.ofChange rulesFirstWrong)

/- THE SECOND FORM. 'bulk': how many values and letters a reading holds, each counted each time it is reached (what is shared counts as often as it is met; a slice's spare places count too). A statement '..UptoSaid' is the law's where the arguments, and the package variables that the reading takes, are together of bulk at most 1048576: NARROWER than '..Said'. Prove '..Said' where nothing that the law and all that it calls make is longer than what came in: it says more and counts as full. Else prove '..UptoSaid'. A law counts once. -/
mutual
def uptoBulk {H : Type} : DataW H → Nat
  | .lit (.string bytes) => bytes.length + 1
  | .lit _ => 1
  | .nil => 1
  | .ptr d => uptoBulk d + 1
  | .slice elems spare => uptoBulkAll elems + uptoBulkAll spare + 1
  | .agg parts => uptoBulkAll parts + 1
  | .iface _ d => uptoBulk d + 1
  | .map entries => uptoBulkEntries entries + 1
  | .held _ => 1
def uptoBulkAll {H : Type} : List (DataW H) → Nat
  | [] => 0
  | d :: r => uptoBulk d + uptoBulkAll r
def uptoBulkEntries {H : Type} : List (Lit × DataW H) → Nat
  | [] => 0
  | x :: r => uptoBulkEntry x + uptoBulkEntries r
def uptoBulkEntry {H : Type} : Lit × DataW H → Nat
  | (.string bytes, d) => bytes.length + uptoBulk d + 1
  | (_, d) => uptoBulk d + 1
 end
def uptoSmall : (H : Type) → List (DataW H) → Bool := fun _ ds => decide (uptoBulkAll ds ≤ 1048576)
def OpenSpec.upto (s : _root_.Go.ChangeSpec) : _root_.Go.OpenSpec := { _root_.Go.OpenSpec.ofChange s with cond := some uptoSmall }

/-- 'abugidalaw16.RulesChecks', WHERE WHAT IT READS IS OF BULK AT MOST 1048576: true; the input reads as it did. -/
def rulesChecksUptoRow : OpenClaim := { program := "ytlgkeaildncojaa", sum := "c6041b297cd3ee559ec968bebe4e5c30c64691bb56370edc461afeca67383063", func := "abugida/abugidalaw16.RulesChecks", spec := "rulesChecks", unfollowed := true, recurses := true, apart := false, narrowed := true }
def RulesChecksUptoSaid : Prop := rulesChecksUptoRow.holds Try.pinned (OpenSpec.upto rulesChecksSpec)

/-- 'abugidalaw16.RulesMatches', WHERE WHAT IT READS IS OF BULK AT MOST 1048576: true; the input reads as it did. -/
def rulesMatchesUptoRow : OpenClaim := { program := "ytlgkeaildncojaa", sum := "c6041b297cd3ee559ec968bebe4e5c30c64691bb56370edc461afeca67383063", func := "abugida/abugidalaw16.RulesMatches", spec := "rulesMatches", unfollowed := true, recurses := true, apart := false, narrowed := true }
def RulesMatchesUptoSaid : Prop := rulesMatchesUptoRow.holds Try.pinned (OpenSpec.upto rulesMatchesSpec)

/-- 'abugidalaw16.RulesClusters', WHERE WHAT IT READS IS OF BULK AT MOST 1048576: true; the input reads as it did. -/
def rulesClustersUptoRow : OpenClaim := { program := "ytlgkeaildncojaa", sum := "c6041b297cd3ee559ec968bebe4e5c30c64691bb56370edc461afeca67383063", func := "abugida/abugidalaw16.RulesClusters", spec := "rulesClusters", unfollowed := true, recurses := true, apart := false, narrowed := true }
def RulesClustersUptoSaid : Prop := rulesClustersUptoRow.holds Try.pinned (OpenSpec.upto rulesClustersSpec)

/-- 'abugidalaw16.RulesCalls', WHERE WHAT IT READS IS OF BULK AT MOST 1048576: true; the input reads as it did. -/
def rulesCallsUptoRow : OpenClaim := { program := "ytlgkeaildncojaa", sum := "c6041b297cd3ee559ec968bebe4e5c30c64691bb56370edc461afeca67383063", func := "abugida/abugidalaw16.RulesCalls", spec := "rulesCalls", unfollowed := true, recurses := true, apart := false, narrowed := true }
def RulesCallsUptoSaid : Prop := rulesCallsUptoRow.holds Try.pinned (OpenSpec.upto rulesCallsSpec)

/-- 'abugidalaw16.RulesWork', WHERE WHAT IT READS IS OF BULK AT MOST 1048576: true; the input reads as it did. -/
def rulesWorkUptoRow : OpenClaim := { program := "ytlgkeaildncojaa", sum := "c6041b297cd3ee559ec968bebe4e5c30c64691bb56370edc461afeca67383063", func := "abugida/abugidalaw16.RulesWork", spec := "rulesWork", unfollowed := true, recurses := true, apart := false, narrowed := true }
def RulesWorkUptoSaid : Prop := rulesWorkUptoRow.holds Try.pinned (OpenSpec.upto rulesWorkSpec)

/-- 'abugidalaw16.RulesNone', WHERE WHAT IT READS IS OF BULK AT MOST 1048576: true; the input reads as it did. -/
def rulesNoneUptoRow : OpenClaim := { program := "ytlgkeaildncojaa", sum := "c6041b297cd3ee559ec968bebe4e5c30c64691bb56370edc461afeca67383063", func := "abugida/abugidalaw16.RulesNone", spec := "rulesNone", unfollowed := true, recurses := true, apart := false, narrowed := true }
def RulesNoneUptoSaid : Prop := rulesNoneUptoRow.holds Try.pinned (OpenSpec.upto rulesNoneSpec)

/-- 'abugidalaw16.RulesEach', WHERE WHAT IT READS IS OF BULK AT MOST 1048576: true; the input reads as it did. -/
def rulesEachUptoRow : OpenClaim := { program := "ytlgkeaildncojaa", sum := "c6041b297cd3ee559ec968bebe4e5c30c64691bb56370edc461afeca67383063", func := "abugida/abugidalaw16.RulesEach", spec := "rulesEach", unfollowed := true, recurses := true, apart := false, narrowed := true }
def RulesEachUptoSaid : Prop := rulesEachUptoRow.holds Try.pinned (OpenSpec.upto rulesEachSpec)

/-- 'abugidalaw16.RulesFirst', WHERE WHAT IT READS IS OF BULK AT MOST 1048576: true; the input reads as it did. -/
def rulesFirstUptoRow : OpenClaim := { program := "ytlgkeaildncojaa", sum := "c6041b297cd3ee559ec968bebe4e5c30c64691bb56370edc461afeca67383063", func := "abugida/abugidalaw16.RulesFirst", spec := "rulesFirst", unfollowed := true, recurses := true, apart := false, narrowed := true }
def RulesFirstUptoSaid : Prop := rulesFirstUptoRow.holds Try.pinned (OpenSpec.upto rulesFirstSpec)

end Rows
end Go.Proofs.Ytlgkeaildncojaa

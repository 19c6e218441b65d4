/-
  No cell of these rows narrows 'for every input' (looked for: loops, veiled, ifaces, maps, wideKeys, modest, calm, conditions, laid).
  DERIVED. THE GIVEN ROWS OF THIS SEAT. 5 by the template 'for every input the law returns true; each argument reads behind the call as it read before'; 0 by the template 'total and deterministic' (their statements: YtmgiapmkggkmhaaTotals.lean).
  GIVEN WITH THE SEED: the statements are not yours to turn. If you find one false, say at which input.
  Laid BY PROGRAM, IN A SANDBOX (cutbox-rows.mjs): the forced cells as the released guide's own fill.sh prints them over the translation 3ccfec356236ba16… (all of the seat's roots in one cut). By AI agents, Wed Nov 11 2026. No macro, syntax, notation, axiom, sorry.
-/
import Derived.Test.YtmgiapmkggkmhaaChecked
import GoSem.Claim
import GoSem.ClaimJoined
import GoSem.ClaimMapViews
import Derived.JoinedTies
import Derived.KernelRfl
namespace Go.Proofs.Ytmgiapmkggkmhaa
/- THE CELL 'sum', in the pinned program and in every row, IS THE sha256 OF THE DUMP (.gsa) THAT YtmgiapmkggkmhaaProg.lean LOADS. Nothing in Lean hashes anything: it is a label: what it is worth is what the hold of that sum in a sandbox is worth. -/
noncomputable def Try.pinned : Pinned := { name := "ytmgiapmkggkmhaa", sum := "3ccfec356236ba1678b00e52a73f3cebd1523fe01f0bd029cb1a63331644accb", checked := Try.checked }
namespace Rows
def none {H : Type} : Left H := { results := [], args := [] }

/-- 'abugidalaw05.CharsAll': WHATEVER THE INPUT: true; the input reads as it did. -/
def charsAllSpec : ChangeSpec := { name := "charsAll", fn := fun _ => fun
  | [d] => { results := [.lit (.bool true)], args := [d] }
  | _ => none }
def charsAllRow : OpenClaim := { program := "ytmgiapmkggkmhaa", sum := "3ccfec356236ba1678b00e52a73f3cebd1523fe01f0bd029cb1a63331644accb", func := "abugida/abugidalaw05.CharsAll", spec := "charsAll", apart := false }
def CharsAllSaid : Prop := charsAllRow.holds Try.pinned (OpenSpec.ofChange charsAllSpec)

/-- ITS FALSE NEIGHBOUR: 'it returns false'. Refute it at one input. -/
def charsAllWrong : ChangeSpec := { name := "charsAll", fn := fun _ => fun
  | [d] => { results := [.lit (.bool false)], args := [d] }
  | _ => none }
def CharsAllWrongFalsely : Prop := charsAllRow.holds Try.pinned (OpenSpec.ofChange charsAllWrong)

/-- 'abugidalaw05.CharsCodes': WHATEVER THE INPUT: true; the input reads as it did. -/
def charsCodesSpec : ChangeSpec := { name := "charsCodes", fn := fun _ => fun
  | [d] => { results := [.lit (.bool true)], args := [d] }
  | _ => none }
def charsCodesRow : OpenClaim := { program := "ytmgiapmkggkmhaa", sum := "3ccfec356236ba1678b00e52a73f3cebd1523fe01f0bd029cb1a63331644accb", func := "abugida/abugidalaw05.CharsCodes", spec := "charsCodes", apart := false }
def CharsCodesSaid : Prop := charsCodesRow.holds Try.pinned (OpenSpec.ofChange charsCodesSpec)

/-- ITS FALSE NEIGHBOUR: 'it returns false'. Refute it at one input. -/
def charsCodesWrong : ChangeSpec := { name := "charsCodes", fn := fun _ => fun
  | [d] => { results := [.lit (.bool false)], args := [d] }
  | _ => none }
def CharsCodesWrongFalsely : Prop := charsCodesRow.holds Try.pinned (OpenSpec.ofChange charsCodesWrong)

/-- 'abugidalaw05.CharsParts': WHATEVER THE INPUT: true; the input reads as it did. -/
def charsPartsSpec : ChangeSpec := { name := "charsParts", fn := fun _ => fun
  | [d] => { results := [.lit (.bool true)], args := [d] }
  | _ => none }
def charsPartsRow : OpenClaim := { program := "ytmgiapmkggkmhaa", sum := "3ccfec356236ba1678b00e52a73f3cebd1523fe01f0bd029cb1a63331644accb", func := "abugida/abugidalaw05.CharsParts", spec := "charsParts", apart := false }
def CharsPartsSaid : Prop := charsPartsRow.holds Try.pinned (OpenSpec.ofChange charsPartsSpec)

/-- ITS FALSE NEIGHBOUR: 'it returns false'. Refute it at one input. -/
def charsPartsWrong : ChangeSpec := { name := "charsParts", fn := fun _ => fun
  | [d] => { results := [.lit (.bool false)], args := [d] }
  | _ => none }
def CharsPartsWrongFalsely : Prop := charsPartsRow.holds Try.pinned (OpenSpec.ofChange charsPartsWrong)

/-- 'abugidalaw05.CharsAlike': WHATEVER THE INPUT: true; the input reads as it did. -/
def charsAlikeSpec : ChangeSpec := { name := "charsAlike", fn := fun _ => fun
  | [d1, d2] => { results := [.lit (.bool true)], args := [d1, d2] }
  | _ => none }
def charsAlikeRow : OpenClaim := { program := "ytmgiapmkggkmhaa", sum := "3ccfec356236ba1678b00e52a73f3cebd1523fe01f0bd029cb1a63331644accb", func := "abugida/abugidalaw05.CharsAlike", spec := "charsAlike", apart := false }
def CharsAlikeSaid : Prop := charsAlikeRow.holds Try.pinned (OpenSpec.ofChange charsAlikeSpec)

/-- ITS FALSE NEIGHBOUR: 'it returns false'. Refute it at one input. -/
def charsAlikeWrong : ChangeSpec := { name := "charsAlike", fn := fun _ => fun
  | [d1, d2] => { results := [.lit (.bool false)], args := [d1, d2] }
  | _ => none }
def CharsAlikeWrongFalsely : Prop := charsAlikeRow.holds Try.pinned (OpenSpec.ofChange charsAlikeWrong)

/-- 'abugidalaw05.CharsJoins': WHATEVER THE INPUT: true; the input reads as it did. -/
def charsJoinsSpec : ChangeSpec := { name := "charsJoins", fn := fun _ => fun
  | [d] => { results := [.lit (.bool true)], args := [d] }
  | _ => none }
def charsJoinsRow : OpenClaim := { program := "ytmgiapmkggkmhaa", sum := "3ccfec356236ba1678b00e52a73f3cebd1523fe01f0bd029cb1a63331644accb", func := "abugida/abugidalaw05.CharsJoins", spec := "charsJoins", apart := false }
def CharsJoinsSaid : Prop := charsJoinsRow.holds Try.pinned (OpenSpec.ofChange charsJoinsSpec)

/-- ITS FALSE NEIGHBOUR: 'it returns false'. Refute it at one input. -/
def charsJoinsWrong : ChangeSpec := { name := "charsJoins", fn := fun _ => fun
  | [d] => { results := [.lit (.bool false)], args := [d] }
  | _ => none }
def CharsJoinsWrongFalsely : Prop := charsJoinsRow.holds Try.pinned (OpenSpec.ofChange charsJoinsWrong)

/- THE SECOND FORM. 'bulk': how many values and letters a reading holds, each counted each time it is reached (what is shared counts as often as it is met; a slice's spare places count too). A statement '..UptoSaid' is the law's where the arguments, and the package variables that the reading takes, are together of bulk at most 1048576: NARROWER than '..Said'. Prove '..Said' where nothing that the law and all that it calls make is longer than what came in: it says more and counts as full. Else prove '..UptoSaid'. A law counts once. -/
mutual
def uptoBulk {H : Type} : DataW H → Nat
  | .lit (.string bytes) => bytes.length + 1
  | .lit _ => 1
  | .nil => 1
  | .ptr d => uptoBulk d + 1
  | .slice elems spare => uptoBulkAll elems + uptoBulkAll spare + 1
  | .agg parts => uptoBulkAll parts + 1
  | .iface _ d => uptoBulk d + 1
  | .map entries => uptoBulkEntries entries + 1
  | .held _ => 1
def uptoBulkAll {H : Type} : List (DataW H) → Nat
  | [] => 0
  | d :: r => uptoBulk d + uptoBulkAll r
def uptoBulkEntries {H : Type} : List (Lit × DataW H) → Nat
  | [] => 0
  | x :: r => uptoBulkEntry x + uptoBulkEntries r
def uptoBulkEntry {H : Type} : Lit × DataW H → Nat
  | (.string bytes, d) => bytes.length + uptoBulk d + 1
  | (_, d) => uptoBulk d + 1
 end
def uptoSmall : (H : Type) → List (DataW H) → Bool := fun _ ds => decide (uptoBulkAll ds ≤ 1048576)
def OpenSpec.upto (s : _root_.Go.ChangeSpec) : _root_.Go.OpenSpec := { _root_.Go.OpenSpec.ofChange s with cond := some uptoSmall }

/-- 'abugidalaw05.CharsAll', WHERE WHAT IT READS IS OF BULK AT MOST 1048576: true; the input reads as it did. -/
def charsAllUptoRow : OpenClaim := { program := "ytmgiapmkggkmhaa", sum := "3ccfec356236ba1678b00e52a73f3cebd1523fe01f0bd029cb1a63331644accb", func := "abugida/abugidalaw05.CharsAll", spec := "charsAll", apart := false, narrowed := true }
def CharsAllUptoSaid : Prop := charsAllUptoRow.holds Try.pinned (OpenSpec.upto charsAllSpec)

/-- 'abugidalaw05.CharsCodes', WHERE WHAT IT READS IS OF BULK AT MOST 1048576: true; the input reads as it did. -/
def charsCodesUptoRow : OpenClaim := { program := "ytmgiapmkggkmhaa", sum := "3ccfec356236ba1678b00e52a73f3cebd1523fe01f0bd029cb1a63331644accb", func := "abugida/abugidalaw05.CharsCodes", spec := "charsCodes", apart := false, narrowed := true }
def CharsCodesUptoSaid : Prop := charsCodesUptoRow.holds Try.pinned (OpenSpec.upto charsCodesSpec)

/-- 'abugidalaw05.CharsParts', WHERE WHAT IT READS IS OF BULK AT MOST 1048576: true; the input reads as it did. -/
def charsPartsUptoRow : OpenClaim := { program := "ytmgiapmkggkmhaa", sum := "3ccfec356236ba1678b00e52a73f3cebd1523fe01f0bd029cb1a63331644accb", func := "abugida/abugidalaw05.CharsParts", spec := "charsParts", apart := false, narrowed := true }
def CharsPartsUptoSaid : Prop := charsPartsUptoRow.holds Try.pinned (OpenSpec.upto charsPartsSpec)

/-- 'abugidalaw05.CharsAlike', WHERE WHAT IT READS IS OF BULK AT MOST 1048576: true; the input reads as it did. -/
def charsAlikeUptoRow : OpenClaim := { program := "ytmgiapmkggkmhaa", sum := "3ccfec356236ba1678b00e52a73f3cebd1523fe01f0bd029cb1a63331644accb", func := "abugida/abugidalaw05.CharsAlike", spec := "charsAlike", apart := false, narrowed := true }
def CharsAlikeUptoSaid : Prop := charsAlikeUptoRow.holds Try.pinned (OpenSpec.upto charsAlikeSpec)

/-- 'abugidalaw05.CharsJoins', WHERE WHAT IT READS IS OF BULK AT MOST 1048576: true; the input reads as it did. -/
def charsJoinsUptoRow : OpenClaim := { program := "ytmgiapmkggkmhaa", sum := "3ccfec356236ba1678b00e52a73f3cebd1523fe01f0bd029cb1a63331644accb", func := "abugida/abugidalaw05.CharsJoins", spec := "charsJoins", apart := false, narrowed := true }
def CharsJoinsUptoSaid : Prop := charsJoinsUptoRow.holds Try.pinned (OpenSpec.upto charsJoinsSpec)

end Rows
end Go.Proofs.Ytmgiapmkggkmhaa

/-
  No cell of these rows narrows 'for every input' (looked for: loops, veiled, ifaces, maps, wideKeys, modest, calm, conditions, laid).
  DERIVED. THE GIVEN ROWS OF THIS SEAT. 6 by the template 'for every input the law returns true; each argument reads behind the call as it read before'; 0 by the template 'total and deterministic' (their statements: YtacnckneiklgpaaTotals.lean).
  GIVEN WITH THE SEED: the statements are not yours to turn. If you find one false, say at which input.
  Laid BY PROGRAM, IN A SANDBOX (cutbox-rows.mjs): the forced cells as the released guide's own fill.sh prints them over the translation 650e3e70b81c5518… (all of the seat's roots in one cut). By AI agents, Wed Nov 11 2026. No macro, syntax, notation, axiom, sorry.
-/
import Derived.Test.YtacnckneiklgpaaChecked
import GoSem.Claim
import GoSem.ClaimJoined
import GoSem.ClaimMapViews
import Derived.JoinedTies
import Derived.KernelRfl
namespace Go.Proofs.Ytacnckneiklgpaa
/- THE CELL 'sum', in the pinned program and in every row, IS THE sha256 OF THE DUMP (.gsa) THAT YtacnckneiklgpaaProg.lean LOADS. Nothing in Lean hashes anything: it is a label: what it is worth is what the hold of that sum in a sandbox is worth. -/
noncomputable def Try.pinned : Pinned := { name := "ytacnckneiklgpaa", sum := "650e3e70b81c55184293b6868ea1ebef998793712ff60ac017a32e1fc50a35d2", checked := Try.checked }
namespace Rows
def none {H : Type} : Left H := { results := [], args := [] }

/-- 'abugidalaw07.OrderLevels': WHATEVER THE INPUT: true; the input reads as it did. -/
def orderLevelsSpec : ChangeSpec := { name := "orderLevels", fn := fun _ => fun
  | [d] => { results := [.lit (.bool true)], args := [d] }
  | _ => none }
def orderLevelsRow : OpenClaim := { program := "ytacnckneiklgpaa", sum := "650e3e70b81c55184293b6868ea1ebef998793712ff60ac017a32e1fc50a35d2", func := "abugida/abugidalaw07.OrderLevels", spec := "orderLevels", unfollowed := true, recurses := true, apart := false }
def OrderLevelsSaid : Prop := orderLevelsRow.holds Try.pinned (OpenSpec.ofChange orderLevelsSpec)

/-- ITS FALSE NEIGHBOUR: 'it returns false'. Refute it at one input. -/
def orderLevelsWrong : ChangeSpec := { name := "orderLevels", fn := fun _ => fun
  | [d] => { results := [.lit (.bool false)], args := [d] }
  | _ => none }
def OrderLevelsWrongFalsely : Prop := orderLevelsRow.holds Try.pinned (OpenSpec.ofChange orderLevelsWrong)

/-- 'abugidalaw07.OrderPlain': WHATEVER THE INPUT: true; the input reads as it did. -/
def orderPlainSpec : ChangeSpec := { name := "orderPlain", fn := fun _ => fun
  | [d] => { results := [.lit (.bool true)], args := [d] }
  | _ => none }
def orderPlainRow : OpenClaim := { program := "ytacnckneiklgpaa", sum := "650e3e70b81c55184293b6868ea1ebef998793712ff60ac017a32e1fc50a35d2", func := "abugida/abugidalaw07.OrderPlain", spec := "orderPlain", unfollowed := true, recurses := true, apart := false }
def OrderPlainSaid : Prop := orderPlainRow.holds Try.pinned (OpenSpec.ofChange orderPlainSpec)

/-- ITS FALSE NEIGHBOUR: 'it returns false'. Refute it at one input. -/
def orderPlainWrong : ChangeSpec := { name := "orderPlain", fn := fun _ => fun
  | [d] => { results := [.lit (.bool false)], args := [d] }
  | _ => none }
def OrderPlainWrongFalsely : Prop := orderPlainRow.holds Try.pinned (OpenSpec.ofChange orderPlainWrong)

/-- 'abugidalaw07.OrderVisual': WHATEVER THE INPUT: true; the input reads as it did. -/
def orderVisualSpec : ChangeSpec := { name := "orderVisual", fn := fun _ => fun
  | [d1, d2] => { results := [.lit (.bool true)], args := [d1, d2] }
  | _ => none }
def orderVisualRow : OpenClaim := { program := "ytacnckneiklgpaa", sum := "650e3e70b81c55184293b6868ea1ebef998793712ff60ac017a32e1fc50a35d2", func := "abugida/abugidalaw07.OrderVisual", spec := "orderVisual", unfollowed := true, recurses := true, apart := false }
def OrderVisualSaid : Prop := orderVisualRow.holds Try.pinned (OpenSpec.ofChange orderVisualSpec)

/-- ITS FALSE NEIGHBOUR: 'it returns false'. Refute it at one input. -/
def orderVisualWrong : ChangeSpec := { name := "orderVisual", fn := fun _ => fun
  | [d1, d2] => { results := [.lit (.bool false)], args := [d1, d2] }
  | _ => none }
def OrderVisualWrongFalsely : Prop := orderVisualRow.holds Try.pinned (OpenSpec.ofChange orderVisualWrong)

/-- 'abugidalaw07.OrderOnce': WHATEVER THE INPUT: true; the input reads as it did. -/
def orderOnceSpec : ChangeSpec := { name := "orderOnce", fn := fun _ => fun
  | [d] => { results := [.lit (.bool true)], args := [d] }
  | _ => none }
def orderOnceRow : OpenClaim := { program := "ytacnckneiklgpaa", sum := "650e3e70b81c55184293b6868ea1ebef998793712ff60ac017a32e1fc50a35d2", func := "abugida/abugidalaw07.OrderOnce", spec := "orderOnce", unfollowed := true, recurses := true, apart := false }
def OrderOnceSaid : Prop := orderOnceRow.holds Try.pinned (OpenSpec.ofChange orderOnceSpec)

/-- ITS FALSE NEIGHBOUR: 'it returns false'. Refute it at one input. -/
def orderOnceWrong : ChangeSpec := { name := "orderOnce", fn := fun _ => fun
  | [d] => { results := [.lit (.bool false)], args := [d] }
  | _ => none }
def OrderOnceWrongFalsely : Prop := orderOnceRow.holds Try.pinned (OpenSpec.ofChange orderOnceWrong)

/-- 'abugidalaw07.OrderPieces': WHATEVER THE INPUT: true; the input reads as it did. -/
def orderPiecesSpec : ChangeSpec := { name := "orderPieces", fn := fun _ => fun
  | [d1, d2] => { results := [.lit (.bool true)], args := [d1, d2] }
  | _ => none }
def orderPiecesRow : OpenClaim := { program := "ytacnckneiklgpaa", sum := "650e3e70b81c55184293b6868ea1ebef998793712ff60ac017a32e1fc50a35d2", func := "abugida/abugidalaw07.OrderPieces", spec := "orderPieces", unfollowed := true, recurses := true, apart := false }
def OrderPiecesSaid : Prop := orderPiecesRow.holds Try.pinned (OpenSpec.ofChange orderPiecesSpec)

/-- ITS FALSE NEIGHBOUR: 'it returns false'. Refute it at one input. -/
def orderPiecesWrong : ChangeSpec := { name := "orderPieces", fn := fun _ => fun
  | [d1, d2] => { results := [.lit (.bool false)], args := [d1, d2] }
  | _ => none }
def OrderPiecesWrongFalsely : Prop := orderPiecesRow.holds Try.pinned (OpenSpec.ofChange orderPiecesWrong)

/-- 'abugidalaw07.OrderApart': WHATEVER THE INPUT: true; the input reads as it did. -/
def orderApartSpec : ChangeSpec := { name := "orderApart", fn := fun _ => fun
  | [d1, d2] => { results := [.lit (.bool true)], args := [d1, d2] }
  | _ => none }
def orderApartRow : OpenClaim := { program := "ytacnckneiklgpaa", sum := "650e3e70b81c55184293b6868ea1ebef998793712ff60ac017a32e1fc50a35d2", func := "abugida/abugidalaw07.OrderApart", spec := "orderApart", unfollowed := true, recurses := true, apart := false }
def OrderApartSaid : Prop := orderApartRow.holds Try.pinned (OpenSpec.ofChange orderApartSpec)

/-- ITS FALSE NEIGHBOUR: 'it returns false'. Refute it at one input. -/
def orderApartWrong : ChangeSpec := { name := "orderApart", fn := fun _ => fun
  | [d1, d2] => { results := [.lit (.bool false)], args := [d1, d2] }
  | _ => none }
def OrderApartWrongFalsely : Prop := orderApartRow.holds Try.pinned (OpenSpec.ofChange orderApartWrong)

/- THE SECOND FORM. 'bulk': how many values and letters a reading holds, each counted each time it is reached (what is shared counts as often as it is met; a slice's spare places count too). A statement '..UptoSaid' is the law's where the arguments, and the package variables that the reading takes, are together of bulk at most 1048576: NARROWER than '..Said'. Prove '..Said' where nothing that the law and all that it calls make is longer than what came in: it says more and counts as full. Else prove '..UptoSaid'. A law counts once. -/
mutual
def uptoBulk {H : Type} : DataW H → Nat
  | .lit (.string bytes) => bytes.length + 1
  | .lit _ => 1
  | .nil => 1
  | .ptr d => uptoBulk d + 1
  | .slice elems spare => uptoBulkAll elems + uptoBulkAll spare + 1
  | .agg parts => uptoBulkAll parts + 1
  | .iface _ d => uptoBulk d + 1
  | .map entries => uptoBulkEntries entries + 1
  | .held _ => 1
def uptoBulkAll {H : Type} : List (DataW H) → Nat
  | [] => 0
  | d :: r => uptoBulk d + uptoBulkAll r
def uptoBulkEntries {H : Type} : List (Lit × DataW H) → Nat
  | [] => 0
  | x :: r => uptoBulkEntry x + uptoBulkEntries r
def uptoBulkEntry {H : Type} : Lit × DataW H → Nat
  | (.string bytes, d) => bytes.length + uptoBulk d + 1
  | (_, d) => uptoBulk d + 1
 end
def uptoSmall : (H : Type) → List (DataW H) → Bool := fun _ ds => decide (uptoBulkAll ds ≤ 1048576)
def OpenSpec.upto (s : _root_.Go.ChangeSpec) : _root_.Go.OpenSpec := { _root_.Go.OpenSpec.ofChange s with cond := some uptoSmall }

/-- 'abugidalaw07.OrderLevels', WHERE WHAT IT READS IS OF BULK AT MOST 1048576: true; the input reads as it did. -/
def orderLevelsUptoRow : OpenClaim := { program := "ytacnckneiklgpaa", sum := "650e3e70b81c55184293b6868ea1ebef998793712ff60ac017a32e1fc50a35d2", func := "abugida/abugidalaw07.OrderLevels", spec := "orderLevels", unfollowed := true, recurses := true, apart := false, narrowed := true }
def OrderLevelsUptoSaid : Prop := orderLevelsUptoRow.holds Try.pinned (OpenSpec.upto orderLevelsSpec)

/-- 'abugidalaw07.OrderPlain', WHERE WHAT IT READS IS OF BULK AT MOST 1048576: true; the input reads as it did. -/
def orderPlainUptoRow : OpenClaim := { program := "ytacnckneiklgpaa", sum := "650e3e70b81c55184293b6868ea1ebef998793712ff60ac017a32e1fc50a35d2", func := "abugida/abugidalaw07.OrderPlain", spec := "orderPlain", unfollowed := true, recurses := true, apart := false, narrowed := true }
def OrderPlainUptoSaid : Prop := orderPlainUptoRow.holds Try.pinned (OpenSpec.upto orderPlainSpec)

/-- 'abugidalaw07.OrderVisual', WHERE WHAT IT READS IS OF BULK AT MOST 1048576: true; the input reads as it did. -/
def orderVisualUptoRow : OpenClaim := { program := "ytacnckneiklgpaa", sum := "650e3e70b81c55184293b6868ea1ebef998793712ff60ac017a32e1fc50a35d2", func := "abugida/abugidalaw07.OrderVisual", spec := "orderVisual", unfollowed := true, recurses := true, apart := false, narrowed := true }
def OrderVisualUptoSaid : Prop := orderVisualUptoRow.holds Try.pinned (OpenSpec.upto orderVisualSpec)

/-- 'abugidalaw07.OrderOnce', WHERE WHAT IT READS IS OF BULK AT MOST 1048576: true; the input reads as it did. -/
def orderOnceUptoRow : OpenClaim := { program := "ytacnckneiklgpaa", sum := "650e3e70b81c55184293b6868ea1ebef998793712ff60ac017a32e1fc50a35d2", func := "abugida/abugidalaw07.OrderOnce", spec := "orderOnce", unfollowed := true, recurses := true, apart := false, narrowed := true }
def OrderOnceUptoSaid : Prop := orderOnceUptoRow.holds Try.pinned (OpenSpec.upto orderOnceSpec)

/-- 'abugidalaw07.OrderPieces', WHERE WHAT IT READS IS OF BULK AT MOST 1048576: true; the input reads as it did. -/
def orderPiecesUptoRow : OpenClaim := { program := "ytacnckneiklgpaa", sum := "650e3e70b81c55184293b6868ea1ebef998793712ff60ac017a32e1fc50a35d2", func := "abugida/abugidalaw07.OrderPieces", spec := "orderPieces", unfollowed := true, recurses := true, apart := false, narrowed := true }
def OrderPiecesUptoSaid : Prop := orderPiecesUptoRow.holds Try.pinned (OpenSpec.upto orderPiecesSpec)

/-- 'abugidalaw07.OrderApart', WHERE WHAT IT READS IS OF BULK AT MOST 1048576: true; the input reads as it did. -/
def orderApartUptoRow : OpenClaim := { program := "ytacnckneiklgpaa", sum := "650e3e70b81c55184293b6868ea1ebef998793712ff60ac017a32e1fc50a35d2", func := "abugida/abugidalaw07.OrderApart", spec := "orderApart", unfollowed := true, recurses := true, apart := false, narrowed := true }
def OrderApartUptoSaid : Prop := orderApartUptoRow.holds Try.pinned (OpenSpec.upto orderApartSpec)

end Rows
end Go.Proofs.Ytacnckneiklgpaa

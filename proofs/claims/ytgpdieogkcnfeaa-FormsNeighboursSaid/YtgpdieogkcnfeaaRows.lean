/-
  No cell of these rows narrows 'for every input' (looked for: loops, veiled, ifaces, maps, wideKeys, modest, calm, conditions, laid).
  DERIVED. THE GIVEN ROWS OF THIS SEAT. 6 by the template 'for every input the law returns true; each argument reads behind the call as it read before'; 0 by the template 'total and deterministic' (their statements: YtgpdieogkcnfeaaTotals.lean).
  GIVEN WITH THE SEED: the statements are not yours to turn. If you find one false, say at which input.
  Laid BY PROGRAM, IN A SANDBOX (cutbox-rows.mjs): the forced cells as the released guide's own fill.sh prints them over the translation 62af39137859c551… (all of the seat's roots in one cut). By AI agents, Wed Nov 11 2026. No macro, syntax, notation, axiom, sorry.
-/
import Derived.Test.YtgpdieogkcnfeaaChecked
import GoSem.Claim
import GoSem.ClaimJoined
import GoSem.ClaimMapViews
import Derived.JoinedTies
import Derived.KernelRfl
namespace Go.Proofs.Ytgpdieogkcnfeaa
/- THE CELL 'sum', in the pinned program and in every row, IS THE sha256 OF THE DUMP (.gsa) THAT YtgpdieogkcnfeaaProg.lean LOADS. Nothing in Lean hashes anything: it is a label: what it is worth is what the hold of that sum in a sandbox is worth. -/
noncomputable def Try.pinned : Pinned := { name := "ytgpdieogkcnfeaa", sum := "62af39137859c5511b2c1207968a21d25df620601d014ae0c625fc23868ba95b", checked := Try.checked }
namespace Rows
def none {H : Type} : Left H := { results := [], args := [] }

/-- 'abugidalaw17.FormsTell': WHATEVER THE INPUT: true; the input reads as it did. -/
def formsTellSpec : ChangeSpec := { name := "formsTell", fn := fun _ => fun
  | [d1, d2] => { results := [.lit (.bool true)], args := [d1, d2] }
  | _ => none }
def formsTellRow : OpenClaim := { program := "ytgpdieogkcnfeaa", sum := "62af39137859c5511b2c1207968a21d25df620601d014ae0c625fc23868ba95b", func := "abugida/abugidalaw17.FormsTell", spec := "formsTell", unfollowed := true, recurses := true, plainKeys := false, apart := false }
def FormsTellSaid : Prop := formsTellRow.holds Try.pinned (OpenSpec.ofChange formsTellSpec)

/-- ITS FALSE NEIGHBOUR: 'it returns false'. Refute it at one input. -/
def formsTellWrong : ChangeSpec := { name := "formsTell", fn := fun _ => fun
  | [d1, d2] => { results := [.lit (.bool false)], args := [d1, d2] }
  | _ => none }
def FormsTellWrongFalsely : Prop := formsTellRow.holds Try.pinned (OpenSpec.ofChange formsTellWrong)

/-- 'abugidalaw17.FormsOrder': WHATEVER THE INPUT: true; the input reads as it did. -/
def formsOrderSpec : ChangeSpec := { name := "formsOrder", fn := fun _ => fun
  | [d1, d2, d3] => { results := [.lit (.bool true)], args := [d1, d2, d3] }
  | _ => none }
def formsOrderRow : OpenClaim := { program := "ytgpdieogkcnfeaa", sum := "62af39137859c5511b2c1207968a21d25df620601d014ae0c625fc23868ba95b", func := "abugida/abugidalaw17.FormsOrder", spec := "formsOrder", unfollowed := true, recurses := true, plainKeys := false, apart := false }
def FormsOrderSaid : Prop := formsOrderRow.holds Try.pinned (OpenSpec.ofChange formsOrderSpec)

/-- ITS FALSE NEIGHBOUR: 'it returns false'. Refute it at one input. -/
def formsOrderWrong : ChangeSpec := { name := "formsOrder", fn := fun _ => fun
  | [d1, d2, d3] => { results := [.lit (.bool false)], args := [d1, d2, d3] }
  | _ => none }
def FormsOrderWrongFalsely : Prop := formsOrderRow.holds Try.pinned (OpenSpec.ofChange formsOrderWrong)

/-- 'abugidalaw17.FormsMay': WHATEVER THE INPUT: true; the input reads as it did. -/
def formsMaySpec : ChangeSpec := { name := "formsMay", fn := fun _ => fun
  | [d1, d2, d3] => { results := [.lit (.bool true)], args := [d1, d2, d3] }
  | _ => none }
def formsMayRow : OpenClaim := { program := "ytgpdieogkcnfeaa", sum := "62af39137859c5511b2c1207968a21d25df620601d014ae0c625fc23868ba95b", func := "abugida/abugidalaw17.FormsMay", spec := "formsMay", unfollowed := true, recurses := true, plainKeys := false, apart := false }
def FormsMaySaid : Prop := formsMayRow.holds Try.pinned (OpenSpec.ofChange formsMaySpec)

/-- ITS FALSE NEIGHBOUR: 'it returns false'. Refute it at one input. -/
def formsMayWrong : ChangeSpec := { name := "formsMay", fn := fun _ => fun
  | [d1, d2, d3] => { results := [.lit (.bool false)], args := [d1, d2, d3] }
  | _ => none }
def FormsMayWrongFalsely : Prop := formsMayRow.holds Try.pinned (OpenSpec.ofChange formsMayWrong)

/-- 'abugidalaw17.FormsNeighbours': WHATEVER THE INPUT: true; the input reads as it did. -/
def formsNeighboursSpec : ChangeSpec := { name := "formsNeighbours", fn := fun _ => fun
  | [d] => { results := [.lit (.bool true)], args := [d] }
  | _ => none }
def formsNeighboursRow : OpenClaim := { program := "ytgpdieogkcnfeaa", sum := "62af39137859c5511b2c1207968a21d25df620601d014ae0c625fc23868ba95b", func := "abugida/abugidalaw17.FormsNeighbours", spec := "formsNeighbours", unfollowed := true, recurses := true, plainKeys := false, apart := false }
def FormsNeighboursSaid : Prop := formsNeighboursRow.holds Try.pinned (OpenSpec.ofChange formsNeighboursSpec)

/-- ITS FALSE NEIGHBOUR: 'it returns false'. Refute it at one input. -/
def formsNeighboursWrong : ChangeSpec := { name := "formsNeighbours", fn := fun _ => fun
  | [d] => { results := [.lit (.bool false)], args := [d] }
  | _ => none }
def FormsNeighboursWrongFalsely : Prop := formsNeighboursRow.holds Try.pinned (OpenSpec.ofChange formsNeighboursWrong)

/-- 'abugidalaw17.FormsApart': WHATEVER THE INPUT: true; the input reads as it did. -/
def formsApartSpec : ChangeSpec := { name := "formsApart", fn := fun _ => fun
  | [d1, d2, d3] => { results := [.lit (.bool true)], args := [d1, d2, d3] }
  | _ => none }
def formsApartRow : OpenClaim := { program := "ytgpdieogkcnfeaa", sum := "62af39137859c5511b2c1207968a21d25df620601d014ae0c625fc23868ba95b", func := "abugida/abugidalaw17.FormsApart", spec := "formsApart", unfollowed := true, recurses := true, plainKeys := false, apart := false }
def FormsApartSaid : Prop := formsApartRow.holds Try.pinned (OpenSpec.ofChange formsApartSpec)

/-- ITS FALSE NEIGHBOUR: 'it returns false'. Refute it at one input. -/
def formsApartWrong : ChangeSpec := { name := "formsApart", fn := fun _ => fun
  | [d1, d2, d3] => { results := [.lit (.bool false)], args := [d1, d2, d3] }
  | _ => none }
def FormsApartWrongFalsely : Prop := formsApartRow.holds Try.pinned (OpenSpec.ofChange formsApartWrong)

/-- 'abugidalaw17.FormsPlaces': WHATEVER THE INPUT: true; the input reads as it did. -/
def formsPlacesSpec : ChangeSpec := { name := "formsPlaces", fn := fun _ => fun
  | [d] => { results := [.lit (.bool true)], args := [d] }
  | _ => none }
def formsPlacesRow : OpenClaim := { program := "ytgpdieogkcnfeaa", sum := "62af39137859c5511b2c1207968a21d25df620601d014ae0c625fc23868ba95b", func := "abugida/abugidalaw17.FormsPlaces", spec := "formsPlaces", unfollowed := true, recurses := true, plainKeys := false, apart := false }
def FormsPlacesSaid : Prop := formsPlacesRow.holds Try.pinned (OpenSpec.ofChange formsPlacesSpec)

/-- ITS FALSE NEIGHBOUR: 'it returns false'. Refute it at one input. -/
def formsPlacesWrong : ChangeSpec := { name := "formsPlaces", fn := fun _ => fun
  | [d] => { results := [.lit (.bool false)], args := [d] }
  | _ => none }
def FormsPlacesWrongFalsely : Prop := formsPlacesRow.holds Try.pinned (OpenSpec.ofChange formsPlacesWrong)

/- THE SECOND FORM. 'bulk': how many values and letters a reading holds, each counted each time it is reached (what is shared counts as often as it is met; a slice's spare places count too). A statement '..UptoSaid' is the law's where the arguments, and the package variables that the reading takes, are together of bulk at most 1048576: NARROWER than '..Said'. Prove '..Said' where nothing that the law and all that it calls make is longer than what came in: it says more and counts as full. Else prove '..UptoSaid'. A law counts once. -/
mutual
def uptoBulk {H : Type} : DataW H → Nat
  | .lit (.string bytes) => bytes.length + 1
  | .lit _ => 1
  | .nil => 1
  | .ptr d => uptoBulk d + 1
  | .slice elems spare => uptoBulkAll elems + uptoBulkAll spare + 1
  | .agg parts => uptoBulkAll parts + 1
  | .iface _ d => uptoBulk d + 1
  | .map entries => uptoBulkEntries entries + 1
  | .held _ => 1
def uptoBulkAll {H : Type} : List (DataW H) → Nat
  | [] => 0
  | d :: r => uptoBulk d + uptoBulkAll r
def uptoBulkEntries {H : Type} : List (Lit × DataW H) → Nat
  | [] => 0
  | x :: r => uptoBulkEntry x + uptoBulkEntries r
def uptoBulkEntry {H : Type} : Lit × DataW H → Nat
  | (.string bytes, d) => bytes.length + uptoBulk d + 1
  | (_, d) => uptoBulk d + 1
 end
def uptoSmall : (H : Type) → List (DataW H) → Bool := fun _ ds => decide (uptoBulkAll ds ≤ 1048576)
def OpenSpec.upto (s : _root_.Go.ChangeSpec) : _root_.Go.OpenSpec := { _root_.Go.OpenSpec.ofChange s with cond := some uptoSmall }

/-- 'abugidalaw17.FormsTell', WHERE WHAT IT READS IS OF BULK AT MOST 1048576: true; the input reads as it did. -/
def formsTellUptoRow : OpenClaim := { program := "ytgpdieogkcnfeaa", sum := "62af39137859c5511b2c1207968a21d25df620601d014ae0c625fc23868ba95b", func := "abugida/abugidalaw17.FormsTell", spec := "formsTell", unfollowed := true, recurses := true, plainKeys := false, apart := false, narrowed := true }
def FormsTellUptoSaid : Prop := formsTellUptoRow.holds Try.pinned (OpenSpec.upto formsTellSpec)

/-- 'abugidalaw17.FormsOrder', WHERE WHAT IT READS IS OF BULK AT MOST 1048576: true; the input reads as it did. -/
def formsOrderUptoRow : OpenClaim := { program := "ytgpdieogkcnfeaa", sum := "62af39137859c5511b2c1207968a21d25df620601d014ae0c625fc23868ba95b", func := "abugida/abugidalaw17.FormsOrder", spec := "formsOrder", unfollowed := true, recurses := true, plainKeys := false, apart := false, narrowed := true }
def FormsOrderUptoSaid : Prop := formsOrderUptoRow.holds Try.pinned (OpenSpec.upto formsOrderSpec)

/-- 'abugidalaw17.FormsMay', WHERE WHAT IT READS IS OF BULK AT MOST 1048576: true; the input reads as it did. -/
def formsMayUptoRow : OpenClaim := { program := "ytgpdieogkcnfeaa", sum := "62af39137859c5511b2c1207968a21d25df620601d014ae0c625fc23868ba95b", func := "abugida/abugidalaw17.FormsMay", spec := "formsMay", unfollowed := true, recurses := true, plainKeys := false, apart := false, narrowed := true }
def FormsMayUptoSaid : Prop := formsMayUptoRow.holds Try.pinned (OpenSpec.upto formsMaySpec)

/-- 'abugidalaw17.FormsNeighbours', WHERE WHAT IT READS IS OF BULK AT MOST 1048576: true; the input reads as it did. -/
def formsNeighboursUptoRow : OpenClaim := { program := "ytgpdieogkcnfeaa", sum := "62af39137859c5511b2c1207968a21d25df620601d014ae0c625fc23868ba95b", func := "abugida/abugidalaw17.FormsNeighbours", spec := "formsNeighbours", unfollowed := true, recurses := true, plainKeys := false, apart := false, narrowed := true }
def FormsNeighboursUptoSaid : Prop := formsNeighboursUptoRow.holds Try.pinned (OpenSpec.upto formsNeighboursSpec)

/-- 'abugidalaw17.FormsApart', WHERE WHAT IT READS IS OF BULK AT MOST 1048576: true; the input reads as it did. -/
def formsApartUptoRow : OpenClaim := { program := "ytgpdieogkcnfeaa", sum := "62af39137859c5511b2c1207968a21d25df620601d014ae0c625fc23868ba95b", func := "abugida/abugidalaw17.FormsApart", spec := "formsApart", unfollowed := true, recurses := true, plainKeys := false, apart := false, narrowed := true }
def FormsApartUptoSaid : Prop := formsApartUptoRow.holds Try.pinned (OpenSpec.upto formsApartSpec)

/-- 'abugidalaw17.FormsPlaces', WHERE WHAT IT READS IS OF BULK AT MOST 1048576: true; the input reads as it did. -/
def formsPlacesUptoRow : OpenClaim := { program := "ytgpdieogkcnfeaa", sum := "62af39137859c5511b2c1207968a21d25df620601d014ae0c625fc23868ba95b", func := "abugida/abugidalaw17.FormsPlaces", spec := "formsPlaces", unfollowed := true, recurses := true, plainKeys := false, apart := false, narrowed := true }
def FormsPlacesUptoSaid : Prop := formsPlacesUptoRow.holds Try.pinned (OpenSpec.upto formsPlacesSpec)

end Rows
end Go.Proofs.Ytgpdieogkcnfeaa

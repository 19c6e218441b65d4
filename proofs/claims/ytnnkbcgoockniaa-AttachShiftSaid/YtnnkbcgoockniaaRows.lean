/-
  No cell of these rows narrows 'for every input' (looked for: loops, veiled, ifaces, maps, wideKeys, modest, calm, conditions, laid).
  DERIVED. THE GIVEN ROWS OF THIS SEAT. 7 by the template 'for every input the law returns true; each argument reads behind the call as it read before'; 0 by the template 'total and deterministic' (their statements: YtnnkbcgoockniaaTotals.lean).
  GIVEN WITH THE SEED: the statements are not yours to turn. If you find one false, say at which input.
  Laid BY PROGRAM, IN A SANDBOX (cutbox-rows.mjs): the forced cells as the released guide's own fill.sh prints them over the translation 2f0c18555973d0ca… (all of the seat's roots in one cut). By AI agents, Wed Nov 11 2026. No macro, syntax, notation, axiom, sorry.
-/
import Derived.Test.YtnnkbcgoockniaaChecked
import GoSem.Claim
import GoSem.ClaimJoined
import GoSem.ClaimMapViews
import Derived.JoinedTies
import Derived.KernelRfl
namespace Go.Proofs.Ytnnkbcgoockniaa
/- THE CELL 'sum', in the pinned program and in every row, IS THE sha256 OF THE DUMP (.gsa) THAT YtnnkbcgoockniaaProg.lean LOADS. Nothing in Lean hashes anything: it is a label: what it is worth is what the hold of that sum in a sandbox is worth. -/
noncomputable def Try.pinned : Pinned := { name := "ytnnkbcgoockniaa", sum := "2f0c18555973d0caa8c4824494faa18a1c0a1bd2c8512748e9f5512024a5b198", checked := Try.checked }
namespace Rows
def none {H : Type} : Left H := { results := [], args := [] }

/-- 'abugidalaw19.AttachPlaces': WHATEVER THE INPUT: true; the input reads as it did. -/
def attachPlacesSpec : ChangeSpec := { name := "attachPlaces", fn := fun _ => fun
  | [d] => { results := [.lit (.bool true)], args := [d] }
  | _ => none }
def attachPlacesRow : OpenClaim := { program := "ytnnkbcgoockniaa", sum := "2f0c18555973d0caa8c4824494faa18a1c0a1bd2c8512748e9f5512024a5b198", func := "abugida/abugidalaw19.AttachPlaces", spec := "attachPlaces", unfollowed := true, recurses := true, apart := false }
def AttachPlacesSaid : Prop := attachPlacesRow.holds Try.pinned (OpenSpec.ofChange attachPlacesSpec)

/-- ITS FALSE NEIGHBOUR: 'it returns false'. Refute it at one input. -/
def attachPlacesWrong : ChangeSpec := { name := "attachPlaces", fn := fun _ => fun
  | [d] => { results := [.lit (.bool false)], args := [d] }
  | _ => none }
def AttachPlacesWrongFalsely : Prop := attachPlacesRow.holds Try.pinned (OpenSpec.ofChange attachPlacesWrong)

/-- 'abugidalaw19.AttachRaw': WHATEVER THE INPUT: true; the input reads as it did. -/
def attachRawSpec : ChangeSpec := { name := "attachRaw", fn := fun _ => fun
  | [d1, d2] => { results := [.lit (.bool true)], args := [d1, d2] }
  | _ => none }
def attachRawRow : OpenClaim := { program := "ytnnkbcgoockniaa", sum := "2f0c18555973d0caa8c4824494faa18a1c0a1bd2c8512748e9f5512024a5b198", func := "abugida/abugidalaw19.AttachRaw", spec := "attachRaw", unfollowed := true, recurses := true, apart := false }
def AttachRawSaid : Prop := attachRawRow.holds Try.pinned (OpenSpec.ofChange attachRawSpec)

/-- ITS FALSE NEIGHBOUR: 'it returns false'. Refute it at one input. -/
def attachRawWrong : ChangeSpec := { name := "attachRaw", fn := fun _ => fun
  | [d1, d2] => { results := [.lit (.bool false)], args := [d1, d2] }
  | _ => none }
def AttachRawWrongFalsely : Prop := attachRawRow.holds Try.pinned (OpenSpec.ofChange attachRawWrong)

/-- 'abugidalaw19.AttachMarks': WHATEVER THE INPUT: true; the input reads as it did. -/
def attachMarksSpec : ChangeSpec := { name := "attachMarks", fn := fun _ => fun
  | [d] => { results := [.lit (.bool true)], args := [d] }
  | _ => none }
def attachMarksRow : OpenClaim := { program := "ytnnkbcgoockniaa", sum := "2f0c18555973d0caa8c4824494faa18a1c0a1bd2c8512748e9f5512024a5b198", func := "abugida/abugidalaw19.AttachMarks", spec := "attachMarks", unfollowed := true, recurses := true, apart := false }
def AttachMarksSaid : Prop := attachMarksRow.holds Try.pinned (OpenSpec.ofChange attachMarksSpec)

/-- ITS FALSE NEIGHBOUR: 'it returns false'. Refute it at one input. -/
def attachMarksWrong : ChangeSpec := { name := "attachMarks", fn := fun _ => fun
  | [d] => { results := [.lit (.bool false)], args := [d] }
  | _ => none }
def AttachMarksWrongFalsely : Prop := attachMarksRow.holds Try.pinned (OpenSpec.ofChange attachMarksWrong)

/-- 'abugidalaw19.AttachPens': WHATEVER THE INPUT: true; the input reads as it did. -/
def attachPensSpec : ChangeSpec := { name := "attachPens", fn := fun _ => fun
  | [d] => { results := [.lit (.bool true)], args := [d] }
  | _ => none }
def attachPensRow : OpenClaim := { program := "ytnnkbcgoockniaa", sum := "2f0c18555973d0caa8c4824494faa18a1c0a1bd2c8512748e9f5512024a5b198", func := "abugida/abugidalaw19.AttachPens", spec := "attachPens", unfollowed := true, recurses := true, apart := false }
def AttachPensSaid : Prop := attachPensRow.holds Try.pinned (OpenSpec.ofChange attachPensSpec)

/-- ITS FALSE NEIGHBOUR: 'it returns false'. Refute it at one input. -/
def attachPensWrong : ChangeSpec := { name := "attachPens", fn := fun _ => fun
  | [d] => { results := [.lit (.bool false)], args := [d] }
  | _ => none }
def AttachPensWrongFalsely : Prop := attachPensRow.holds Try.pinned (OpenSpec.ofChange attachPensWrong)

/-- 'abugidalaw19.AttachBehind': WHATEVER THE INPUT: true; the input reads as it did. -/
def attachBehindSpec : ChangeSpec := { name := "attachBehind", fn := fun _ => fun
  | [d1, d2] => { results := [.lit (.bool true)], args := [d1, d2] }
  | _ => none }
def attachBehindRow : OpenClaim := { program := "ytnnkbcgoockniaa", sum := "2f0c18555973d0caa8c4824494faa18a1c0a1bd2c8512748e9f5512024a5b198", func := "abugida/abugidalaw19.AttachBehind", spec := "attachBehind", unfollowed := true, recurses := true, apart := false }
def AttachBehindSaid : Prop := attachBehindRow.holds Try.pinned (OpenSpec.ofChange attachBehindSpec)

/-- ITS FALSE NEIGHBOUR: 'it returns false'. Refute it at one input. -/
def attachBehindWrong : ChangeSpec := { name := "attachBehind", fn := fun _ => fun
  | [d1, d2] => { results := [.lit (.bool false)], args := [d1, d2] }
  | _ => none }
def AttachBehindWrongFalsely : Prop := attachBehindRow.holds Try.pinned (OpenSpec.ofChange attachBehindWrong)

/-- 'abugidalaw19.AttachShift': WHATEVER THE INPUT: true; the input reads as it did. -/
def attachShiftSpec : ChangeSpec := { name := "attachShift", fn := fun _ => fun
  | [d1, d2, d3] => { results := [.lit (.bool true)], args := [d1, d2, d3] }
  | _ => none }
def attachShiftRow : OpenClaim := { program := "ytnnkbcgoockniaa", sum := "2f0c18555973d0caa8c4824494faa18a1c0a1bd2c8512748e9f5512024a5b198", func := "abugida/abugidalaw19.AttachShift", spec := "attachShift", unfollowed := true, recurses := true, apart := false }
def AttachShiftSaid : Prop := attachShiftRow.holds Try.pinned (OpenSpec.ofChange attachShiftSpec)

/-- ITS FALSE NEIGHBOUR: 'it returns false'. Refute it at one input. -/
def attachShiftWrong : ChangeSpec := { name := "attachShift", fn := fun _ => fun
  | [d1, d2, d3] => { results := [.lit (.bool false)], args := [d1, d2, d3] }
  | _ => none }
def AttachShiftWrongFalsely : Prop := attachShiftRow.holds Try.pinned (OpenSpec.ofChange attachShiftWrong)

/-- 'abugidalaw19.AttachLimits': WHATEVER THE INPUT: true; the input reads as it did. -/
def attachLimitsSpec : ChangeSpec := { name := "attachLimits", fn := fun _ => fun
  | [d1, d2] => { results := [.lit (.bool true)], args := [d1, d2] }
  | _ => none }
def attachLimitsRow : OpenClaim := { program := "ytnnkbcgoockniaa", sum := "2f0c18555973d0caa8c4824494faa18a1c0a1bd2c8512748e9f5512024a5b198", func := "abugida/abugidalaw19.AttachLimits", spec := "attachLimits", unfollowed := true, recurses := true, apart := false }
def AttachLimitsSaid : Prop := attachLimitsRow.holds Try.pinned (OpenSpec.ofChange attachLimitsSpec)

/-- ITS FALSE NEIGHBOUR: 'it returns false'. Refute it at one input. -/
def attachLimitsWrong : ChangeSpec := { name := "attachLimits", fn := fun _ => fun
  | [d1, d2] => { results := [.lit (.bool false)], args := [d1, d2] }
  | _ => none }
def AttachLimitsWrongFalsely : Prop := attachLimitsRow.holds Try.pinned (OpenSpec.ofChange attachLimitsWrong)

/- THE SECOND FORM. 'bulk': how many values and letters a reading holds, each counted each time it is reached (what is shared counts as often as it is met; a slice's spare places count too). A statement '..UptoSaid' is the law's where the arguments, and the package variables that the reading takes, are together of bulk at most 1048576: NARROWER than '..Said'. Prove '..Said' where nothing that the law and all that it calls make is longer than what came in: it says more and counts as full. Else prove '..UptoSaid'. A law counts once. -/
mutual
def uptoBulk {H : Type} : DataW H → Nat
  | .lit (.string bytes) => bytes.length + 1
  | .lit _ => 1
  | .nil => 1
  | .ptr d => uptoBulk d + 1
  | .slice elems spare => uptoBulkAll elems + uptoBulkAll spare + 1
  | .agg parts => uptoBulkAll parts + 1
  | .iface _ d => uptoBulk d + 1
  | .map entries => uptoBulkEntries entries + 1
  | .held _ => 1
def uptoBulkAll {H : Type} : List (DataW H) → Nat
  | [] => 0
  | d :: r => uptoBulk d + uptoBulkAll r
def uptoBulkEntries {H : Type} : List (Lit × DataW H) → Nat
  | [] => 0
  | x :: r => uptoBulkEntry x + uptoBulkEntries r
def uptoBulkEntry {H : Type} : Lit × DataW H → Nat
  | (.string bytes, d) => bytes.length + uptoBulk d + 1
  | (_, d) => uptoBulk d + 1
 end
def uptoSmall : (H : Type) → List (DataW H) → Bool := fun _ ds => decide (uptoBulkAll ds ≤ 1048576)
def OpenSpec.upto (s : _root_.Go.ChangeSpec) : _root_.Go.OpenSpec := { _root_.Go.OpenSpec.ofChange s with cond := some uptoSmall }

/-- 'abugidalaw19.AttachPlaces', WHERE WHAT IT READS IS OF BULK AT MOST 1048576: true; the input reads as it did. -/
def attachPlacesUptoRow : OpenClaim := { program := "ytnnkbcgoockniaa", sum := "2f0c18555973d0caa8c4824494faa18a1c0a1bd2c8512748e9f5512024a5b198", func := "abugida/abugidalaw19.AttachPlaces", spec := "attachPlaces", unfollowed := true, recurses := true, apart := false, narrowed := true }
def AttachPlacesUptoSaid : Prop := attachPlacesUptoRow.holds Try.pinned (OpenSpec.upto attachPlacesSpec)

/-- 'abugidalaw19.AttachRaw', WHERE WHAT IT READS IS OF BULK AT MOST 1048576: true; the input reads as it did. -/
def attachRawUptoRow : OpenClaim := { program := "ytnnkbcgoockniaa", sum := "2f0c18555973d0caa8c4824494faa18a1c0a1bd2c8512748e9f5512024a5b198", func := "abugida/abugidalaw19.AttachRaw", spec := "attachRaw", unfollowed := true, recurses := true, apart := false, narrowed := true }
def AttachRawUptoSaid : Prop := attachRawUptoRow.holds Try.pinned (OpenSpec.upto attachRawSpec)

/-- 'abugidalaw19.AttachMarks', WHERE WHAT IT READS IS OF BULK AT MOST 1048576: true; the input reads as it did. -/
def attachMarksUptoRow : OpenClaim := { program := "ytnnkbcgoockniaa", sum := "2f0c18555973d0caa8c4824494faa18a1c0a1bd2c8512748e9f5512024a5b198", func := "abugida/abugidalaw19.AttachMarks", spec := "attachMarks", unfollowed := true, recurses := true, apart := false, narrowed := true }
def AttachMarksUptoSaid : Prop := attachMarksUptoRow.holds Try.pinned (OpenSpec.upto attachMarksSpec)

/-- 'abugidalaw19.AttachPens', WHERE WHAT IT READS IS OF BULK AT MOST 1048576: true; the input reads as it did. -/
def attachPensUptoRow : OpenClaim := { program := "ytnnkbcgoockniaa", sum := "2f0c18555973d0caa8c4824494faa18a1c0a1bd2c8512748e9f5512024a5b198", func := "abugida/abugidalaw19.AttachPens", spec := "attachPens", unfollowed := true, recurses := true, apart := false, narrowed := true }
def AttachPensUptoSaid : Prop := attachPensUptoRow.holds Try.pinned (OpenSpec.upto attachPensSpec)

/-- 'abugidalaw19.AttachBehind', WHERE WHAT IT READS IS OF BULK AT MOST 1048576: true; the input reads as it did. -/
def attachBehindUptoRow : OpenClaim := { program := "ytnnkbcgoockniaa", sum := "2f0c18555973d0caa8c4824494faa18a1c0a1bd2c8512748e9f5512024a5b198", func := "abugida/abugidalaw19.AttachBehind", spec := "attachBehind", unfollowed := true, recurses := true, apart := false, narrowed := true }
def AttachBehindUptoSaid : Prop := attachBehindUptoRow.holds Try.pinned (OpenSpec.upto attachBehindSpec)

/-- 'abugidalaw19.AttachShift', WHERE WHAT IT READS IS OF BULK AT MOST 1048576: true; the input reads as it did. -/
def attachShiftUptoRow : OpenClaim := { program := "ytnnkbcgoockniaa", sum := "2f0c18555973d0caa8c4824494faa18a1c0a1bd2c8512748e9f5512024a5b198", func := "abugida/abugidalaw19.AttachShift", spec := "attachShift", unfollowed := true, recurses := true, apart := false, narrowed := true }
def AttachShiftUptoSaid : Prop := attachShiftUptoRow.holds Try.pinned (OpenSpec.upto attachShiftSpec)

/-- 'abugidalaw19.AttachLimits', WHERE WHAT IT READS IS OF BULK AT MOST 1048576: true; the input reads as it did. -/
def attachLimitsUptoRow : OpenClaim := { program := "ytnnkbcgoockniaa", sum := "2f0c18555973d0caa8c4824494faa18a1c0a1bd2c8512748e9f5512024a5b198", func := "abugida/abugidalaw19.AttachLimits", spec := "attachLimits", unfollowed := true, recurses := true, apart := false, narrowed := true }
def AttachLimitsUptoSaid : Prop := attachLimitsUptoRow.holds Try.pinned (OpenSpec.upto attachLimitsSpec)

end Rows
end Go.Proofs.Ytnnkbcgoockniaa

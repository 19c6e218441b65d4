-- Written by wip/tools/myprint.py, a program of this session that drives the kit's print.py; not a text of print.sh.
import Derived.Test.YtnnkbcgoockniaaEqArr
import Derived.Test.YtnnkbcgoockniaaQx0
import Derived.Test.YtnnkbcgoockniaaC
namespace Go.Proofs.Ytnnkbcgoockniaa.Q
open Go.RowKit Go.Proofs.YtnnkbcgoockniaaW.PrintWords Go.Proofs.YtnnkbcgoockniaaW.PrintLast Go.Proofs.YtnnkbcgoockniaaW.PrintMore
attribute [local go_sem] run_eq37 run_eq37m run_eq37n max2_int min2_int max_two min_two max_three min_three max_four min_four   -- for this text's walks alone
set_option linter.unusedVariables false
set_option linter.unusedSimpArgs false

/-! ### attach_Places: function 13 (by hand) -/

def attach_Places.f (l : List S35) : Option (List S37) := some (placesF l)
theorem attach_Places.calls (A0 : Option Addr) (c0 : Nat) (l0 : List S35) (r : List S37) (w : World) (hr0 : Kd.C k35 w A0 l0.length l0) (hc0 : l0.length ≤ c0) (h : attach_Places.f l0 = some r) :
    Calls Try.prog 13 #[.slice A0 l0.length c0] w fun e w' => ∃ v0_ : Value, e = .returned (v0_) ∧ Kd.R k37 37 w' w.heap.size (fun _ => True) v0_ r ∧ Below w.heap.size w w' := by
  obtain rfl := Option.some.inj h
  exact places_calls A0 c0 l0 w hr0 hc0


end Go.Proofs.Ytnnkbcgoockniaa.Q

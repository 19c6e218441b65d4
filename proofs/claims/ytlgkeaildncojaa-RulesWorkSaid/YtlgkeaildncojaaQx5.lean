-- Written by wip/tools/myprint.py, a program of this session that drives the kit's print.py; not a text of print.sh.
import Derived.Test.YtlgkeaildncojaaQx0
import Derived.Test.YtlgkeaildncojaaN4
namespace Go.Proofs.Ytlgkeaildncojaa.Q
open Go.RowKit Go.Proofs.YtlgkeaildncojaaW.PrintWords Go.Proofs.YtlgkeaildncojaaW.PrintLast Go.Proofs.YtlgkeaildncojaaW.PrintMore
attribute [local go_sem] max2_int min2_int max_two min_two max_three min_three max_four min_four   -- for this text's walks alone
set_option linter.unusedVariables false
set_option linter.unusedSimpArgs false

/-! ### sets_Norm: function 29 (by hand) -/

def sets_Norm.f (l : List Int) : Option (List Int) := norm_f l
theorem sets_Norm.calls (A0 : Option Addr) (c0 : Nat) (l0 : List Int) (r : List Int) (w : World) (hr0 : Kd.C (Kd.int .i64) w A0 l0.length l0) (hc0 : l0.length ≤ c0) (h : sets_Norm.f l0 = some r) :
    Calls Try.prog 29 #[.slice A0 l0.length c0] w fun e w' => ∃ v0_ : Value, e = .returned (v0_) ∧ Kd.R (Kd.int .i64) 3 w' w.heap.size (fun _ => True) v0_ r ∧ Below w.heap.size w w' := norm_calls A0 c0 l0 r w hr0 hc0 h


end Go.Proofs.Ytlgkeaildncojaa.Q

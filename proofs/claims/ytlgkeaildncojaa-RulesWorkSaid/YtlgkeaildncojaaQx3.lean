-- Written by wip/tools/myprint.py, a program of this session that drives the kit's print.py; not a text of print.sh.
import Derived.Test.YtlgkeaildncojaaQx0
import Derived.Test.YtlgkeaildncojaaChk
namespace Go.Proofs.Ytlgkeaildncojaa.Q
open Go.RowKit Go.Proofs.YtlgkeaildncojaaW.PrintWords Go.Proofs.YtlgkeaildncojaaW.PrintLast Go.Proofs.YtlgkeaildncojaaW.PrintMore
attribute [local go_sem] max2_int min2_int max_two min_two max_three min_three max_four min_four   -- for this text's walks alone
set_option linter.unusedVariables false
set_option linter.unusedSimpArgs false

/-! ### rules_Check: function 16 (by hand) -/

def rules_Check.f (l0_0 : List (S49)) (a1 : Int) (a2 : Int) (a3 : Int) : Option (Int) := some (checkP l0_0 a1 a2 a3)
theorem rules_Check.calls (A0_0 : Option Addr) (c0_0 : Nat) (l0_0 : List (S49)) (a1 : Int) (a2 : Int) (a3 : Int) (r : Int) (w : World) (hr0_0 : Kd.C k49 w A0_0 l0_0.length l0_0) (hc0_0 : l0_0.length ≤ c0_0) (h : rules_Check.f l0_0 a1 a2 a3 = some r) :
    Calls Try.prog 16 #[.agg #[.slice A0_0 l0_0.length c0_0], .int .i64 a1, .int .i64 a2, .int .i64 a3] w fun e w' => e = .returned (.int .i64 r) ∧ Below w.heap.size w w' := by
  obtain rfl := Option.some.inj h
  exact check_calls A0_0 c0_0 l0_0 a1 a2 a3 w hr0_0


end Go.Proofs.Ytlgkeaildncojaa.Q

-- Written by wip/tools/myprint.py, a program of this session that drives the kit's print.py; not a text of print.sh.
import Derived.Test.YtlgkeaildncojaaQx0
import Derived.Test.YtlgkeaildncojaaAy
namespace Go.Proofs.Ytlgkeaildncojaa.Q
open Go.RowKit Go.Proofs.YtlgkeaildncojaaW.PrintWords Go.Proofs.YtlgkeaildncojaaW.PrintLast Go.Proofs.YtlgkeaildncojaaW.PrintMore
attribute [local go_sem] max2_int min2_int max_two min_two max_three min_three max_four min_four   -- for this text's walks alone
set_option linter.unusedVariables false
set_option linter.unusedSimpArgs false

/-! ### rules_Apply: function 23 (by hand) -/

def rules_Apply.f (l0 : List (S24)) (a1 : Int) (l2 : List (S55)) (l3 : List Bool) : Option (List (S55) × Int × Int) := applyO l0 a1 l2 l3
theorem rules_Apply.calls (A0 : Option Addr) (c0 : Nat) (l0 : List (S24)) (a1 : Int) (A2 : Option Addr) (c2 : Nat) (l2 : List (S55)) (A3 : Option Addr) (c3 : Nat) (l3 : List Bool) (r1 : List (S55)) (r2 : Int) (r3 : Int) (w : World) (hr0 : Kd.C k24 w A0 l0.length l0) (hc0 : l0.length ≤ c0) (hr2 : Kd.C k55 w A2 l2.length l2) (hc2 : l2.length ≤ c2) (hr3 : Kd.C Kd.bool w A3 l3.length l3) (hc3 : l3.length ≤ c3) (h : rules_Apply.f l0 a1 l2 l3 = some (r1, r2, r3)) :
    Calls Try.prog 23 #[.slice A0 l0.length c0, .int .i64 a1, .slice A2 l2.length c2, .slice A3 l3.length c3] w fun e w' => ∃ v0_ : Value, e = .returned (.tuple #[v0_, .int .i64 r2, .int .i64 r3]) ∧ Kd.R k55 55 w' w.heap.size (fun _ => True) v0_ r1 ∧ Below w.heap.size w w' :=
  apply_all A0 c0 l0 a1 A2 c2 l2 A3 c3 l3 r1 r2 r3 w hr0 hc0 hr2 hc2 hr3 hc3 h


end Go.Proofs.Ytlgkeaildncojaa.Q

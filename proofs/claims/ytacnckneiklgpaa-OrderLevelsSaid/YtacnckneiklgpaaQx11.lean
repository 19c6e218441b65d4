-- Written by wip/tools/myprint.py, a program of this session that drives the kit's print.py; not a text of print.sh.
import Derived.Test.YtacnckneiklgpaaQx0
import Derived.Test.YtacnckneiklgpaaRn
namespace Go.Proofs.Ytacnckneiklgpaa.Q
open Go.RowKit Go.Proofs.YtacnckneiklgpaaW.PrintWords Go.Proofs.YtacnckneiklgpaaW.PrintLast Go.Proofs.YtacnckneiklgpaaW.PrintMore
attribute [local go_sem] max2_int min2_int max_two min_two max_three min_three max_four min_four   -- for this text's walks alone
set_option linter.unusedVariables false
set_option linter.unusedSimpArgs false

/-! ### order_Runs: function 17 (by hand) -/

def order_Runs.f (a0 : ByteArray) : Option (List S44) := runsO a0
theorem order_Runs.calls (a0 : ByteArray) (r : List S44) (w : World) (h : order_Runs.f a0 = some r) :
    Calls Try.prog 17 #[.string a0] w fun e w' => ∃ v0_ : Value, e = .returned (v0_) ∧ Kd.R k44 44 w' w.heap.size (fun _ => True) v0_ r ∧ Below w.heap.size w w' := runs_calls a0 r w h


end Go.Proofs.Ytacnckneiklgpaa.Q

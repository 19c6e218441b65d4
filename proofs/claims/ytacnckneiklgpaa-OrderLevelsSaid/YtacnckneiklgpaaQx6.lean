-- Written by wip/tools/myprint.py, a program of this session that drives the kit's print.py; not a text of print.sh.
import Derived.Test.YtacnckneiklgpaaQx0
import Derived.Test.YtacnckneiklgpaaBs
namespace Go.Proofs.Ytacnckneiklgpaa.Q
open Go.RowKit Go.Proofs.YtacnckneiklgpaaW.PrintWords Go.Proofs.YtacnckneiklgpaaW.PrintLast Go.Proofs.YtacnckneiklgpaaW.PrintMore
attribute [local go_sem] max2_int min2_int max_two min_two max_three min_three max_four min_four   -- for this text's walks alone
set_option linter.unusedVariables false
set_option linter.unusedSimpArgs false

/-! ### order_base: function 28 (by hand) -/

def order_base.f (s : ByteArray) : Option Int := if s.size ≤ 9223372036854775807 then some (baseL (bytesOf s)) else none
theorem order_base.calls (s : ByteArray) (r : Int) (w : World) (h : order_base.f s = some r) :
    Calls Try.prog 28 #[.string s] w fun e w' => e = .returned (.int .i64 r) ∧ Below w.heap.size w w' := by
  unfold order_base.f at h
  split at h
  · rename_i hs
    obtain rfl := Option.some.inj h
    exact base_calls s hs w
  · cases h


end Go.Proofs.Ytacnckneiklgpaa.Q

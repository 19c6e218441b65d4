-- Written by wip/tools/myprint.py, a program of this session that drives the kit's print.py; not a text of print.sh.
import Derived.Test.YtnnkbcgoockniaaEqArr
import Derived.Test.YtnnkbcgoockniaaQx0
import Derived.Test.YtnnkbcgoockniaaD
namespace Go.Proofs.Ytnnkbcgoockniaa.Q
open Go.RowKit Go.Proofs.YtnnkbcgoockniaaW.PrintWords Go.Proofs.YtnnkbcgoockniaaW.PrintLast Go.Proofs.YtnnkbcgoockniaaW.PrintMore
attribute [local go_sem] run_eq37 run_eq37m run_eq37n max2_int min2_int max_two min_two max_three min_three max_four min_four   -- for this text's walks alone
set_option linter.unusedVariables false
set_option linter.unusedSimpArgs false

/-! ### abugidalaw19_glyphs: function 16 (by hand) -/

def abugidalaw19_glyphs.f (s : ByteArray) : Option (List S35) := if s.size ≤ 1000000 then some (glyphsN s s.size) else none
theorem abugidalaw19_glyphs.calls (s : ByteArray) (r : List S35) (w : World) (h : abugidalaw19_glyphs.f s = some r) :
    Calls Try.prog 16 #[.string s] w fun e w' => ∃ v0_ : Value, e = .returned (v0_) ∧ Kd.R k35 35 w' w.heap.size (fun _ => True) v0_ r ∧ Below w.heap.size w w' := by
  unfold abugidalaw19_glyphs.f at h
  split at h
  · rename_i hs
    obtain rfl := Option.some.inj h
    exact glyphs_calls s hs w
  · cases h


end Go.Proofs.Ytnnkbcgoockniaa.Q

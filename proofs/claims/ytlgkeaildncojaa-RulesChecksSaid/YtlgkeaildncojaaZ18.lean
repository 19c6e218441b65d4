/- Texts of this claim, merged by wip/tools/pack.py: WInvWords. -/
import Derived.Test.YtlgkeaildncojaaZ17
section
namespace Go.Proofs.YtlgkeaildncojaaW.PrintWords
open Go.RowKit
end Go.Proofs.YtlgkeaildncojaaW.PrintWords
namespace Go.Proofs.YtlgkeaildncojaaW.PrintLast
section
variable {ops:Array Oper} {a:Act} {o og:Oper} {g:Nat} {t:Tmp} {u:Bool}
end
end Go.Proofs.YtlgkeaildncojaaW.PrintLast
end

/- Texts of this claim, merged by wip/tools/pack.py: Fnv. -/
import Derived.Test.YtlgkeaildncojaaZ1
section
/- Calls of function values, in a region that draws its order. -/
namespace Go.Proofs.Ytlgkeaildncojaa.Q
open Go.RowKit Go.Proofs.YtlgkeaildncojaaW.PrintWords Go.Proofs.YtlgkeaildncojaaW.PrintLast
variable {P : Program} {ops : Array Oper} {Q : Exit → Act → World → Prop}

end Go.Proofs.Ytlgkeaildncojaa.Q
end

/- Texts of this claim, merged by wip/tools/pack.py: WFour. -/
import Derived.Test.YtlgkeaildncojaaZ3
section
namespace Go.Proofs.YtlgkeaildncojaaW.PrintLast
section
variable {P:Program} {ops:Array Oper} {Q:Exit→Act→World→Prop} {md:Region.Mode} {S:World→Prop} {ds:List Nat} {T:Bool × List (List Nat × List Nat)}
end
end Go.Proofs.YtlgkeaildncojaaW.PrintLast
end

/- Texts of this claim, merged by wip/tools/pack.py: WFootNe. -/
import Derived.Test.YtlgkeaildncojaaZ12
section
namespace Go.Proofs.YtlgkeaildncojaaW.PrintWords
open Go.RowKit
namespace Kd
section
variable {α:Type} {d:Kd α} {W:World} {g n:Nat} {S ok:Nat→Prop} {A:Option Addr} {ad:Addr} {xs:List α}
end
end Kd
end Go.Proofs.YtlgkeaildncojaaW.PrintWords
end

/- []api.Drawn as a parameter: told by k35. -/
import Derived.Test.YtnnkbcgoockniaaOpn
import Derived.Test.YtnnkbcgoockniaaM
namespace Go.Proofs.Ytnnkbcgoockniaa.Q
open Go.RowKit Go.Proofs.YtnnkbcgoockniaaW.PrintWords
theorem opn85 : Opn Try.prog k85 85 := Opn.iso _ (fun y => ⟨y.1, y.2.1, y.2.2⟩) (fun _ => rfl) (Opn.struct Try.underlying85 (OpnF.cons rfl (by kernel_rfl) (Opn.int Try.underlying3) (OpnF.cons rfl rfl (Opn.int Try.underlying3) (OpnF.one rfl (by kernel_rfl) (Opn.bool Try.underlying4)))))
theorem opn33 : Opn Try.prog k33 33 := Opn.iso _ (fun y => ⟨y.1, y.2.1, y.2.2⟩) (fun _ => rfl) (Opn.struct Try.underlying33 (OpnF.cons rfl (by kernel_rfl) (Opn.int Try.underlying3) (OpnF.cons rfl rfl (Opn.int Try.underlying3) (OpnF.one rfl (by kernel_rfl) (Opn.int Try.underlying3)))))
theorem opn30 : Opn Try.prog (Kd.slice 82 (Kd.slice 85 k85)) 30 := Opn.slice Try.underlying30 (by kernel_rfl) (Opn.slice Try.underlying82 (by kernel_rfl) opn85)
theorem opn31 : Opn Try.prog (Kd.slice 33 k33) 31 := Opn.slice Try.underlying31 (by kernel_rfl) opn33
theorem opn35 : Opn Try.prog k35 35 := Opn.iso _ (fun y => ⟨y.1, y.2.1, y.2.2.1, y.2.2.2⟩) (fun _ => rfl) (Opn.struct Try.underlying35 (OpnF.cons rfl rfl opn30 (OpnF.cons rfl rfl opn31 (OpnF.cons rfl rfl opn33 (OpnF.one rfl (by kernel_rfl) (Opn.int Try.underlying3))))))
theorem opn24 : Opn Try.prog (Kd.slice 35 k35) 24 := Opn.slice Try.underlying24 (by kernel_rfl) opn35
end Go.Proofs.Ytnnkbcgoockniaa.Q

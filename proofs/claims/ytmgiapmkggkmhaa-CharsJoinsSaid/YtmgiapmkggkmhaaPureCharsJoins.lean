/- CharsJoins: what joins is a letter of script 2, which does not extend, and what joins after it joins before it; strong characters are those of a script, and digits. For every number. -/
import Derived.Test.YtmgiapmkggkmhaaQx6
import Derived.Test.YtmgiapmkggkmhaaPlain
namespace Go.Proofs.Ytmgiapmkggkmhaa.Pure
open Go.RowKit Go.Proofs.Ytmgiapmkggkmhaa.Q Go.Proofs.Ytmgiapmkggkmhaa.Plain Go.Proofs.YtmgiapmkggkmhaaW.PrintWords Go.Proofs.YtmgiapmkggkmhaaW.PrintLast

/-- The law at one number: by the kernel, number by number. -/
theorem joinsAll : (List.range 256).all (fun c => decide (abugidalaw05_CharsJoins.f 700 (c : Int) = some true)) = true := by decide +kernel

theorem joins_and (n : Int) : abugidalaw05_CharsJoins.f 700 n = abugidalaw05_CharsJoins.f 700 (n % 256) := by
  have e : n % 256 % 256 = n % 256 := by omega
  unfold abugidalaw05_CharsJoins.f
  simp only [and255, e]

theorem CharsJoins : abugidalaw05_CharsJoins.Pure := by
  intro a0 _
  refine ⟨700, ?_⟩
  rw [joins_and]
  obtain ⟨c, hc⟩ : ∃ c : Nat, a0 % 256 = (c : Int) := ⟨(a0 % 256).toNat, by omega⟩
  rw [hc]
  exact of_decide_eq_true (List.all_eq_true.mp joinsAll c (List.mem_range.mpr (by omega)))

end Go.Proofs.Ytmgiapmkggkmhaa.Pure

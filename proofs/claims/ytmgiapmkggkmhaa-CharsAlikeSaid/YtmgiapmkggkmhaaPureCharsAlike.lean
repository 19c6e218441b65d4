/- CharsAlike: two characters of one class extend alike and join alike, and of one script and one class they are equally strong. For every two numbers. -/
import Derived.Test.YtmgiapmkggkmhaaQx5
import Derived.Test.YtmgiapmkggkmhaaPlain
namespace Go.Proofs.Ytmgiapmkggkmhaa.Pure
open Go.RowKit Go.Proofs.Ytmgiapmkggkmhaa.Q Go.Proofs.Ytmgiapmkggkmhaa.Plain Go.Proofs.YtmgiapmkggkmhaaW.PrintWords Go.Proofs.YtmgiapmkggkmhaaW.PrintLast

theorem CharsAlike : abugidalaw05_CharsAlike.Pure := by
  intro a0 a1 _ _
  refine ⟨700, ?_⟩
  have hs : abugidalaw05_sanity.f 700 = some true := by decide +kernel
  obtain ⟨p, hp0, ok⟩ := of_some a0
  obtain ⟨q, hq0, ok2⟩ := of_some a1
  have hp := at_rounds (chars_of.mono _) (show 20 ≤ 700 by omega) hp0
  have hq := at_rounds (chars_of.mono _) (show 20 ≤ 700 by omega) hq0
  unfold abugidalaw05_CharsAlike.f chars_Class.f chars_Joins.f chars_Script.f chars_Strong.f chars_Extends.f chars_Class.f
  rw [hs, and255, and255, hp, hq]
  simp only [Option.bind_some]
  clear hp hq hs hp0 hq0
  revert ok2; revert q; revert ok; revert p
  decide +kernel

end Go.Proofs.Ytmgiapmkggkmhaa.Pure

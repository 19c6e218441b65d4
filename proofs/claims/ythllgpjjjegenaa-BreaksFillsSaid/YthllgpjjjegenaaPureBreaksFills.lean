/- BreaksFills: lines are those of the reference. For all elements and widths. -/
import Derived.Test.YthllgpjjjegenaaQx15
import Derived.Test.YthllgpjjjegenaaFilR
namespace Go.Proofs.Ythllgpjjjegenaa.Pure
open Go.RowKit Go.Proofs.Ythllgpjjjegenaa.Q Go.Proofs.Ythllgpjjjegenaa.Plain Go.Proofs.YthllgpjjjegenaaW.PrintWords Go.Proofs.YthllgpjjjegenaaW.PrintLast

theorem BreaksFills : abugidalaw08_BreaksFills.Pure := by
  intro W M S width _ _ _ _ _ _
  have hl : (W.take 40).length ≤ 1000 := by rw [List.length_take]; omega
  refine Ev.rounds ?_
  unfold abugidalaw08_BreaksFills.f
  refine Ev.bind ev_sanity ?_
  simp only [cut_f, Option.bind_some, if_true]
  refine Ev.bind (ev_fill (W.take 40) (M.take 40) (S.take 40) width hl) ?_
  refine Ev.bind (ev_rfill (W.take 40) (M.take 40) (S.take 40) width hl) ?_
  refine Ev.bind (ev_is _ ?_) (Ev.now _)
  rw [tfill_length]
  show min (min (W.take 40).length (M.take 40).length) (S.take 40).length ≤ 1000
  omega

end Go.Proofs.Ythllgpjjjegenaa.Pure

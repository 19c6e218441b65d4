import Derived.Test.YtfjiamhgennmbaaQx10
import Derived.Test.YtfjiamhgennmbaaRef
namespace Go.Proofs.Ytfjiamhgennmbaa.Pure
open Go.RowKit Go.Proofs.Ytfjiamhgennmbaa.Q Go.Proofs.Ytfjiamhgennmbaa.Plain Go.Proofs.YtfjiamhgennmbaaW.PrintWords Go.Proofs.YtfjiamhgennmbaaW.PrintLast

theorem SetsMatch : abugidalaw15_SetsMatch.Pure := by
  intro l0 l1 a2 _ _ hw0 _ _ hw1 _
  obtain ⟨hA, hA40⟩ := few_ok hw0
  obtain ⟨hB, hB40⟩ := few_ok hw1
  refine Ev.rounds (g := fun k => abugidalaw15_SetsMatch.f k l0 l1 a2) ?_
  unfold abugidalaw15_SetsMatch.f
  simp only [few_is, Option.bind_some]
  generalize l0.take 40 = A at *
  generalize l1.take 40 = B at *
  obtain ⟨b, hb1, hb2⟩ := ex_right A (by omega)
  have hJ := ok_append (by omega) hA hB
  have hM := ok_filter (fun x => decide (x ∈ B)) hA
  have hL := ok_filter (fun x => decide (x ∉ B)) hA
  have lN := len_hset A
  have lNB := len_hset B
  have lJ := (ok_hset hJ).1
  have lM := (ok_hset hM).1
  have lL := (ok_hset hL).1
  refine Ev.bind ev_sanity ?_
  simp only [norm_is hA, norm_is hB, Option.bind_some]
  refine Ev.bind (ev_rnorm A (by omega)) (Ev.bind (ev_same _ (by omega)) ?_)
  simp only [if_true]
  refine Ev.bind hb1 (Ev.bind hb2 ?_)
  simp only [beq_self_eq_true, if_true]
  refine Ev.bind (ev_right _ (hset_sorted B) (by omega)) ?_
  simp only [if_true]
  refine Ev.bind (ev_has A a2 (by omega)) (Ev.bind (ev_rhas A a2 (by omega)) ?_)
  simp only [beq_self_eq_true]
  refine Ev.step (fun k => by simp only [abugidalaw15_SetsMatch.j0, join_is hA hB, meet_is hA hB, less_is hA hB, overlap_is hA hB, Option.bind_some, if_true]; rfl) ?_
  refine Ev.bind (ev_rjoin A B (by omega) (by omega)) (Ev.bind (ev_same _ (by omega)) ?_)
  simp only [if_true]
  refine Ev.bind (ev_rmeet A B (by omega) (by omega)) (Ev.bind (ev_same _ (by omega)) ?_)
  simp only [if_true]
  refine Ev.bind (ev_rless A B (by omega) (by omega)) (Ev.bind (ev_same _ (by omega)) ?_)
  simp only [if_true]
  unfold abugidaref15_Overlap.f
  refine Ev.bind (Ev.bind (ev_rmeet A B (by omega) (by omega)) (Ev.now _)) ?_
  simp only [beq_self_eq_true]
  exact Ev.now _

end Go.Proofs.Ytfjiamhgennmbaa.Pure

/- ClusterSplits: clusters are those of the reference. For every text and all numbers. -/
import Derived.Test.YtngdddgoplmlbaaQx9
import Derived.Test.YtngdddgoplmlbaaMade
namespace Go.Proofs.Ytngdddgoplmlbaa.Pure
open Go.RowKit Go.Proofs.Ytngdddgoplmlbaa.Q Go.Proofs.Ytngdddgoplmlbaa.Plain Go.Proofs.YtngdddgoplmlbaaW.PrintWords Go.Proofs.YtngdddgoplmlbaaW.PrintLast

theorem ev_one (s : ByteArray) (hs : s.size ≤ 1000) {β : Type} (f : Nat → Bool → Option β) (r : β) (h : Ev (fun k => f k true) r) :
    Ev (fun k => (cluster_Split.f s).bind fun a => (abugidaref06_Split.f k s).bind fun b => (abugidaref06_Same.f k a b).bind fun t => f k t) r := by
  simp only [split_spans s hs, Option.bind_some]
  refine Ev.bind (ev_split s hs) ?_
  exact Ev.bind (ev_same (spans s) (by have := spans_length s; omega)) h

theorem ClusterSplits : abugidalaw06_ClusterSplits.Pure := by
  intro s l hs _ _ _
  obtain ⟨t, ht, h60⟩ := ev_made l 60 (by omega)
  refine Ev.rounds ?_
  unfold abugidalaw06_ClusterSplits.f
  have hmn : mn (s.size : Int) 300 = min (s.size : Int) 300 := by unfold mn; omega
  obtain ⟨u, hu⟩ : ∃ u, u = s.extract 0 ((mn (s.size : Int) 300 : Int).toNat) := ⟨_, rfl⟩
  have hus : u.size ≤ 300 := by rw [hu, ByteArray.size_extract, hmn]; omega
  refine Ev.bind ev_sanity ?_
  simp only [← hu]
  simp only [if_pos (show 0 ≤ mn (s.size : Int) 300 by omega), if_pos (show mn (s.size : Int) 300 ≤ (s.size : Int) by omega)]
  refine Ev.bind ht ?_
  simp only [if_true]
  refine ev_one u (by omega) _ _ ?_
  simp only [if_true]
  refine ev_one t (by omega) _ _ ?_
  simp only [if_true, if_pos (show u.size + t.size ≤ 9223372036854775807 by omega)]
  refine ev_one (u ++ t) (by rw [ByteArray.size_append]; omega) _ _ (Ev.now _)

end Go.Proofs.Ytngdddgoplmlbaa.Pure

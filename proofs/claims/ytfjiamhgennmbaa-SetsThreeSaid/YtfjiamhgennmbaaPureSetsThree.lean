import Derived.Test.YtfjiamhgennmbaaQx15
import Derived.Test.YtfjiamhgennmbaaOwn
namespace Go.Proofs.Ytfjiamhgennmbaa.Pure
open Go.RowKit Go.Proofs.Ytfjiamhgennmbaa.Q Go.Proofs.Ytfjiamhgennmbaa.Plain Go.Proofs.YtfjiamhgennmbaaW.PrintWords Go.Proofs.YtfjiamhgennmbaaW.PrintLast

theorem SetsThree : abugidalaw15_SetsThree.Pure := by
  intro l0 l1 l2 _ _ hw0 _ _ hw1 _ _ hw2
  obtain ⟨hA, hA40⟩ := few_ok hw0
  obtain ⟨hB, hB40⟩ := few_ok hw1
  obtain ⟨hC, hC40⟩ := few_ok hw2
  refine Ev.rounds (g := fun k => abugidalaw15_SetsThree.f k l0 l1 l2) ?_
  unfold abugidalaw15_SetsThree.f
  simp only [few_is, Option.bind_some]
  generalize l0.take 40 = A at *
  generalize l1.take 40 = B at *
  generalize l2.take 40 = C at *
  have hAB := ok_append (by omega) hA hB
  have hBC := ok_append (by omega) hB hC
  have hCB := ok_append (by omega) hC hB
  have sAB := len_hset (A ++ B)
  have sBC := len_hset (B ++ C)
  rw [List.length_append] at sAB sBC
  have hAB_C := ok_append (by omega) (ok_hset hAB) hC
  have hA_BC := ok_append (by omega) hA (ok_hset hBC)
  have hmAB := ok_filter (fun x => decide (x ∈ B)) hA
  have hmBC := ok_filter (fun x => decide (x ∈ C)) hB
  have hlAB := ok_filter (fun x => decide (x ∉ B)) hA
  have hlAC := ok_filter (fun x => decide (x ∉ C)) hA
  have hm1 := ok_filter (fun x => decide (x ∈ C)) (ok_hset hmAB)
  have hm2 := ok_filter (fun x => decide (x ∈ hset (B.filter fun x => decide (x ∈ C)))) hA
  have hl1 := ok_filter (fun x => decide (x ∉ hset (B ++ C))) hA
  have hl2 := ok_filter (fun x => decide (x ∈ hset (A.filter fun x => decide (x ∉ C)))) (ok_hset hlAB)
  have hl3 := ok_filter (fun x => decide (x ∉ C)) (ok_hset hlAB)
  have hl4 := ok_filter (fun x => decide (x ∉ hset (C ++ B))) hA
  refine Ev.bind ev_sanity ?_
  simp only [join_is hA hB, join_is (ok_hset hAB) hC, join_is hB hC, join_is hA (ok_hset hBC), meet_is hA hB, meet_is (ok_hset hmAB) hC, meet_is hB hC, meet_is hA (ok_hset hmBC), Option.bind_some]
  rw [show hset (A ++ hset (B ++ C)) = hset (hset (A ++ B) ++ C) from hset_congr (fun y => by simp only [List.mem_append, mem_hset]; exact ⟨fun h => by rcases h with h | h | h <;> simp [h], fun h => by rcases h with (h | h) | h <;> simp [h]⟩)]
  refine Ev.bind (ev_same _ (by have := (ok_hset hAB_C).1; omega)) ?_
  simp only [if_true]
  rw [show hset (A.filter fun x => decide (x ∈ hset (B.filter fun x => decide (x ∈ C)))) = hset ((hset (A.filter fun x => decide (x ∈ B))).filter fun x => decide (x ∈ C)) from hset_congr (fun y => by simp only [List.mem_filter, mem_hset, decide_eq_true_eq]; exact ⟨fun ⟨h1, h2, h3⟩ => ⟨⟨h1, h2⟩, h3⟩, fun ⟨⟨h1, h2⟩, h3⟩ => ⟨h1, h2, h3⟩⟩)]
  refine Ev.bind (ev_same _ (by have := (ok_hset hm1).1; omega)) ?_
  refine Ev.step (fun k => by simp only [abugidalaw15_SetsThree.j0, join_is hB hC, less_is hA (ok_hset hBC), less_is hA hB, less_is hA hC, meet_is (ok_hset hlAB) (ok_hset hlAC), less_is (ok_hset hlAB) hC, join_is hC hB, less_is hA (ok_hset hCB), Option.bind_some, if_true]; rfl) ?_
  rw [show hset (A.filter fun x => decide (x ∉ hset (B ++ C))) = hset ((hset (A.filter fun x => decide (x ∉ B))).filter fun x => decide (x ∈ hset (A.filter fun x => decide (x ∉ C)))) from hset_congr (fun y => by simp only [List.mem_filter, mem_hset, decide_eq_true_eq, List.mem_append]; exact ⟨fun ⟨h1, h2⟩ => ⟨⟨h1, fun h => h2 (.inl h)⟩, h1, fun h => h2 (.inr h)⟩, fun ⟨⟨h1, h2⟩, _, h3⟩ => ⟨h1, fun h => h.elim h2 h3⟩⟩)]
  refine Ev.bind (ev_same _ (by have := (ok_hset hl2).1; omega)) ?_
  simp only [if_true]
  rw [show hset (A.filter fun x => decide (x ∉ hset (C ++ B))) = hset ((hset (A.filter fun x => decide (x ∉ B))).filter fun x => decide (x ∉ C)) from hset_congr (fun y => by simp only [List.mem_filter, mem_hset, decide_eq_true_eq, List.mem_append]; exact ⟨fun ⟨h1, h2⟩ => ⟨⟨h1, fun h => h2 (.inr h)⟩, fun h => h2 (.inl h)⟩, fun ⟨⟨h1, h2⟩, h3⟩ => ⟨h1, fun h => h.elim h3 h2⟩⟩)]
  refine Ev.bind (ev_same _ (by have := (ok_hset hl3).1; omega)) ?_
  exact Ev.now _

end Go.Proofs.Ytfjiamhgennmbaa.Pure

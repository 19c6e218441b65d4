import Derived.Test.YtfjiamhgennmbaaOwnW
import Derived.Test.YtfjiamhgennmbaaRef
namespace Go.Proofs.Ytfjiamhgennmbaa.Pure
open Go.RowKit Go.Proofs.Ytfjiamhgennmbaa.Q Go.Proofs.Ytfjiamhgennmbaa.Plain Go.Proofs.YtfjiamhgennmbaaW.PrintWords Go.Proofs.YtfjiamhgennmbaaW.PrintLast

theorem SetsOwn : abugidalaw15_SetsOwn.Pure := by
  intro l0 l1 _ _ hw0 _ _ hw1
  obtain ⟨hA, hA40⟩ := few_ok hw0
  obtain ⟨hB, hB40⟩ := few_ok hw1
  refine Ev.rounds (g := fun k => abugidalaw15_SetsOwn.f k l0 l1) ?_
  unfold abugidalaw15_SetsOwn.f SetsOwn_f
  simp only [few_is, Option.bind_some]
  generalize l0.take 40 = A at *
  generalize l1.take 40 = B at *
  have hS := ok_hset hA
  have hN : Ok ([] : List Int) := ⟨Nat.zero_le _, fun x hx => by cases hx⟩
  refine Ev.bind ev_sanity (Ev.bind (ev_rnorm A (by omega)) (Ev.bind (ev_rnorm A (by omega)) ?_))
  have h1 := ok_append (by have := hS.1; have := len_hset A; simp only [List.length_nil]; omega) hS hN
  have h2 := ok_append (by have := hS.1; have := len_hset A; simp only [List.length_nil]; omega) hN hS
  refine Ev.bind (g := fun _ => sets_Norm.f (hset A)) ⟨0, fun _ _ => norm_is hS⟩ ?_
  refine Ev.bind (g := fun _ => sets_Join.f (hset A) []) ⟨0, fun _ _ => join_is hS hN⟩ ?_
  refine Ev.bind (g := fun _ => sets_Join.f [] (hset A)) ⟨0, fun _ _ => join_is hN hS⟩ ?_
  refine Ev.bind (g := fun _ => sets_Meet.f (hset A) (hset A)) ⟨0, fun _ _ => meet_is hS hS⟩ ?_
  refine Ev.bind (g := fun _ => sets_Less.f (hset A) B) ⟨0, fun _ _ => less_is hS hB⟩ ?_
  have hl := And.intro (ok_hset hS).1 (And.intro (ok_hset h1).1 (And.intro (ok_hset h2).1 (And.intro (ok_hset (ok_filter (fun x => decide (x ∈ hset A)) hS)).1 (ok_hset (ok_filter (fun x => decide (x ∉ B)) hS)).1)))
  simp only [if_pos hl, if_true]
  exact ev_same _ (by have := hS.1; omega)

end Go.Proofs.Ytfjiamhgennmbaa.Pure

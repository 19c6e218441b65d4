import Derived.Test.YtfjiamhgennmbaaQx13
import Derived.Test.YtfjiamhgennmbaaOwn
namespace Go.Proofs.Ytfjiamhgennmbaa.Pure
open Go.RowKit Go.Proofs.Ytfjiamhgennmbaa.Q Go.Proofs.Ytfjiamhgennmbaa.Plain Go.Proofs.YtfjiamhgennmbaaW.PrintWords Go.Proofs.YtfjiamhgennmbaaW.PrintLast

theorem members_l0 (A B L : List Int) (hA : Ok A) (hB : Ok B) (hA40 : A.length ≤ 40) (hB40 : B.length ≤ 40) (hL : L.length ≤ 1000) (d : Nat) : ∀ i : Nat, i + d = L.length →
    Ev (fun k => abugidalaw15_SetsMembers.l0 k A B true (hset (A ++ B)) (hset (A.filter fun x => decide (x ∈ B))) (hset (A.filter fun x => decide (x ∉ B))) L (L.length : Int) i) true := by
  have hJ := ok_append (by omega) hA hB
  have hM := ok_filter (fun x => decide (x ∈ B)) hA
  have hS := ok_filter (fun x => decide (x ∉ B)) hA
  have lJ := (ok_hset hJ).1
  have lM := (ok_hset hM).1
  have lS := (ok_hset hS).1
  have lN := (ok_hset hA).1
  induction d with
  | zero =>
    intro i hi
    refine Ev.step (fun k => by simp only [abugidalaw15_SetsMembers.l0, if_neg (show ¬ (i : Int) < (L.length : Int) by omega), if_true, overlap_is hA hB, Option.bind_some, beq_self_eq_true]; rfl) ?_
    refine Ev.bind (ev_right _ (hset_sorted _) (by omega)) ?_
    simp only [if_true]
    refine Ev.bind (ev_right _ (hset_sorted _) (by omega)) ?_
    simp only [if_true]
    refine Ev.bind (ev_right _ (hset_sorted _) (by omega)) ?_
    simp only [if_true]
    exact Ev.now _
  | succ d ih =>
    intro i hi
    have hn := ih (i + 1) (by omega)
    generalize hx : rd L (i : Int) = x
    refine Ev.step (fun k => by simp only [abugidalaw15_SetsMembers.l0, if_pos (show (i : Int) < (L.length : Int) by omega), if_pos (show (0 : Int) ≤ i by omega), hx, w64n i (by omega), norm_is hA, Option.bind_some]; rfl) ?_
    refine Ev.bind (ev_has A x (by omega)) (Ev.bind (ev_has B x (by omega)) (Ev.bind (ev_has _ x (by omega)) ?_))
    have e1 : decide (x ∈ hset (A ++ B)) = (decide (x ∈ A) || decide (x ∈ B)) := by
      rw [← Bool.decide_or]
      exact decide_eq_decide.mpr (by rw [mem_hset, List.mem_append])
    have e2 : decide (x ∈ hset (A.filter fun x => decide (x ∈ B))) = (decide (x ∈ A) && decide (x ∈ B)) := by
      rw [← Bool.decide_and]
      exact decide_eq_decide.mpr (by rw [mem_hset, List.mem_filter, decide_eq_true_eq])
    have e3 : decide (x ∈ hset (A.filter fun x => decide (x ∉ B))) = (decide (x ∈ A) && !decide (x ∈ B)) := by
      rw [← decide_not, ← Bool.decide_and]
      exact decide_eq_decide.mpr (by rw [mem_hset, List.mem_filter, decide_eq_true_eq])
    have e4 : decide (x ∈ hset A) = decide (x ∈ A) := decide_eq_decide.mpr (mem_hset A x)
    have v2 := ev_has (hset (A.filter fun x => decide (x ∈ B))) x (by omega)
    have v3 := ev_has (hset (A.filter fun x => decide (x ∉ B))) x (by omega)
    have v4 := ev_has (hset A) x (by omega)
    rw [e1]
    rw [e2] at v2
    rw [e3] at v3
    rw [e4] at v4
    generalize decide (x ∈ A) = p at *
    generalize decide (x ∈ B) = q at *
    cases p with
    | true =>
      simp only [if_true, Bool.true_or, bne_self_eq_false, Bool.false_eq_true, if_false]
      refine Ev.bind v2 ?_
      simp only [Bool.true_and, bne_self_eq_false, Bool.false_eq_true, if_false]
      refine Ev.bind v3 ?_
      simp only [Bool.true_and, bne_self_eq_false, Bool.false_eq_true, if_false]
      refine Ev.bind v4 ?_
      simp only [bne_self_eq_false, Bool.false_eq_true, if_false]
      exact hn
    | false =>
      simp only [Bool.false_eq_true, if_false, Bool.false_or, bne_self_eq_false]
      refine Ev.bind v2 ?_
      simp only [Bool.false_and, bne_self_eq_false, Bool.false_eq_true, if_false]
      refine Ev.bind v3 ?_
      simp only [Bool.false_and, bne_self_eq_false, Bool.false_eq_true, if_false]
      refine Ev.bind v4 ?_
      simp only [bne_self_eq_false, Bool.false_eq_true, if_false]
      exact hn

theorem SetsMembers : abugidalaw15_SetsMembers.Pure := by
  intro l0 l1 a2 _ _ hw0 _ _ hw1 _
  obtain ⟨hA, hA40⟩ := few_ok hw0
  obtain ⟨hB, hB40⟩ := few_ok hw1
  refine Ev.rounds (g := fun k => abugidalaw15_SetsMembers.f k l0 l1 a2) ?_
  unfold abugidalaw15_SetsMembers.f
  simp only [few_is, Option.bind_some]
  generalize l0.take 40 = A at *
  generalize l1.take 40 = B at *
  refine Ev.bind ev_sanity ?_
  simp only [if_pos (show [a2].length + A.length < 17592186044416 by simp only [List.length_cons, List.length_nil]; omega), if_pos (show ([a2] ++ A).length + B.length < 17592186044416 by simp only [List.length_append, List.length_cons, List.length_nil]; omega), join_is hA hB, meet_is hA hB, less_is hA hB, Option.bind_some]
  exact members_l0 A B _ hA hB hA40 hB40 (by simp only [List.length_append, List.length_cons, List.length_nil]; omega) _ 0 (Nat.zero_add _)

end Go.Proofs.Ytfjiamhgennmbaa.Pure

import Derived.Test.YtfjiamhgennmbaaQx14
import Derived.Test.YtfjiamhgennmbaaOwn
namespace Go.Proofs.Ytfjiamhgennmbaa.Pure
open Go.RowKit Go.Proofs.Ytfjiamhgennmbaa.Q Go.Proofs.Ytfjiamhgennmbaa.Plain Go.Proofs.YtfjiamhgennmbaaW.PrintWords Go.Proofs.YtfjiamhgennmbaaW.PrintLast

theorem hset_nodup (l : List Int) : (hset l).Nodup := (hset_sorted l).imp (fun h => by omega)
theorem count_hset (l : List Int) (x : Int) : (hset l).count x = if x ∈ l then 1 else 0 := by
  by_cases h : x ∈ l
  · rw [if_pos h]
    have h1 := List.nodup_iff_count.mp (hset_nodup l) x
    have h2 := List.count_pos_iff.mpr ((mem_hset l x).mpr h)
    omega
  · rw [if_neg h]
    exact List.count_eq_zero_of_not_mem (fun h' => h ((mem_hset l x).mp h'))
/-- What both have and what there is in all. -/
theorem sums (A B : List Int) : (hset (A ++ B)).length + (hset (A.filter fun x => decide (x ∈ B))).length = (hset A).length + (hset B).length := by
  have hp : (hset (A ++ B) ++ hset (A.filter fun x => decide (x ∈ B))).Perm (hset A ++ hset B) := by
    rw [List.perm_iff_count]
    intro x
    rw [List.count_append, List.count_append, count_hset, count_hset, count_hset, count_hset]
    simp only [List.mem_append, List.mem_filter, decide_eq_true_eq]
    by_cases h1 : x ∈ A <;> by_cases h2 : x ∈ B <;> simp [h1, h2]
  have := hp.length_eq
  rwa [List.length_append, List.length_append] at this
theorem hset_ne {l : List Int} (h : ∀ x, x ∉ l) : decide (((hset l).length : Int) > 0) = false := by
  have : hset l = [] := by
    rw [List.eq_nil_iff_forall_not_mem]
    intro x hx
    exact h x ((mem_hset l x).mp hx)
  rw [this]
  rfl

theorem rules_abs (A B J M S NA NB : List Int) (h1 : sets_Overlap.f M S = some false) (h2 : sets_Join.f M S = some NA) (h3 : sets_Norm.f A = some NA) (h4 : sets_Norm.f B = some NB) (h5 : sets_Norm.f J = some J)
    (h6 : J.length + M.length = NA.length + NB.length) (l1 : NA.length ≤ 1000) (l2 : J.length ≤ 1000) : Ev (fun k => abugidalaw15_SetsRules.j1 k A B true J M S true) true := by
  have e4 : wrap64 ((J.length : Int) + (M.length : Int)) = wrap64 ((NA.length : Int) + (NB.length : Int)) := congrArg wrap64 (by omega)
  refine Ev.step (fun k => by simp only [abugidalaw15_SetsRules.j1]; rfl) ?_
  refine Ev.bind (g := fun _ => sets_Overlap.f M S) ⟨0, fun _ _ => h1⟩ ?_
  simp only [Bool.false_eq_true, if_false]
  refine Ev.bind (g := fun _ => sets_Join.f M S) ⟨0, fun _ _ => h2⟩ ?_
  refine Ev.bind (g := fun _ => sets_Norm.f A) ⟨0, fun _ _ => h3⟩ ?_
  refine Ev.bind (ev_same _ (by omega)) ?_
  simp only [if_true]
  refine Ev.bind (g := fun _ => sets_Norm.f A) ⟨0, fun _ _ => h3⟩ ?_
  refine Ev.bind (g := fun _ => sets_Norm.f B) ⟨0, fun _ _ => h4⟩ ?_
  simp only [if_pos e4]
  refine Ev.bind (g := fun _ => sets_Norm.f J) ⟨0, fun _ _ => h5⟩ ?_
  refine Ev.bind (ev_same _ (by omega)) ?_
  exact Ev.now _

theorem rules_j1 (A B : List Int) (hA : Ok A) (hB : Ok B) (hA40 : A.length ≤ 40) (hB40 : B.length ≤ 40) :
    Ev (fun k => abugidalaw15_SetsRules.j1 k A B true (hset (A ++ B)) (hset (A.filter fun x => decide (x ∈ B))) (hset (A.filter fun x => decide (x ∉ B))) true) true := by
  have hJ := ok_append (by omega) hA hB
  have hM := ok_filter (fun x => decide (x ∈ B)) hA
  have hS := ok_filter (fun x => decide (x ∉ B)) hA
  have e3 : hset (hset (A ++ B)) = hset (A ++ B) := hset_congr (fun y => mem_hset _ y)
  refine rules_abs A B _ _ _ (hset A) (hset B) ?_ ?_ (norm_is hA) (norm_is hB) ?_ (sums A B) (ok_hset hA).1 (ok_hset hJ).1
  · rw [overlap_is (ok_hset hM) (ok_hset hS)]
    refine congrArg some (hset_ne (fun x hx => ?_))
    simp only [List.mem_filter, mem_hset, decide_eq_true_eq] at hx
    exact hx.2.2 hx.1.2
  · have l1 := len_hset (A.filter fun x => decide (x ∈ B))
    have l2 := len_hset (A.filter fun x => decide (x ∉ B))
    have l3 := List.length_filter_le (fun x => decide (x ∈ B)) A
    have l4 := List.length_filter_le (fun x => decide (x ∉ B)) A
    rw [join_is (ok_hset hM) (ok_hset hS)]
    refine congrArg some (hset_congr (fun y => ?_))
    simp only [List.mem_append, List.mem_filter, mem_hset, decide_eq_true_eq]
    by_cases h : y ∈ B <;> simp [h]
  · rw [norm_is (ok_hset hJ), e3]

theorem rules_l0 (A B : List Int) (hA : Ok A) (hB : Ok B) (hA40 : A.length ≤ 40) (hB40 : B.length ≤ 40) : ∀ (i : Nat) (back : List Int), i ≤ A.length → back.length + 2 * i ≤ 100 → (∀ y, y ∈ back ↔ y ∈ A.drop i) →
    Ev (fun k => abugidalaw15_SetsRules.l0 k A B true back ((i : Int) - 1)) true := by
  intro i
  induction i with
  | zero =>
    intro back _ hl hm
    have hK : Ok back := ⟨by omega, fun x hx => hA.2 x ((hm x).mp hx)⟩
    rw [List.drop_zero] at hm
    have e1 : hset (B ++ back) = hset (A ++ B) := hset_congr (fun y => by rw [List.mem_append, List.mem_append, hm]; exact Or.comm)
    have e2 : hset (B.filter fun x => decide (x ∈ back)) = hset (A.filter fun x => decide (x ∈ B)) := hset_congr (fun y => by simp only [List.mem_filter, decide_eq_true_eq, hm]; exact And.comm)
    have e3 : hset (back.filter fun x => decide (x ∉ B)) = hset (A.filter fun x => decide (x ∉ B)) := hset_congr (fun y => by simp only [List.mem_filter, decide_eq_true_eq, hm])
    refine Ev.step (fun k => by simp only [abugidalaw15_SetsRules.l0, if_neg (show ¬ ((0 : Nat) : Int) - 1 ≥ 0 by omega), join_is hA hB, meet_is hA hB, less_is hA hB, join_is hB hK, meet_is hB hK, less_is hK hB, e1, e2, e3, Option.bind_some]; rfl) ?_
    have lJ := (ok_hset (ok_append (by omega) hA hB)).1
    have lM := (ok_hset (ok_filter (fun x => decide (x ∈ B)) hA)).1
    have lS := (ok_hset (ok_filter (fun x => decide (x ∉ B)) hA)).1
    refine Ev.bind (ev_same _ (by omega)) ?_
    simp only [if_true]
    refine Ev.bind (ev_same _ (by omega)) ?_
    simp only [if_true]
    refine Ev.bind (ev_same _ (by omega)) ?_
    exact rules_j1 A B hA hB hA40 hB40
  | succ i ih =>
    intro back hi hl hm
    have hw : wrap64 ((((i + 1 : Nat) : Int) - 1) - 1) = (i : Int) - 1 := by unfold wrap64; omega
    have hx : (((i + 1 : Nat) : Int) - 1) = (i : Int) := by omega
    rw [hx] at hw ⊢
    refine Ev.step (fun k => by simp only [abugidalaw15_SetsRules.l0, if_pos (show (i : Int) ≥ 0 by omega), if_pos (show (i : Int) < (A.length : Int) by omega), Option.bind_some, hw, if_pos (show back.length + [rd A (i : Int), rd A (i : Int)].length < 17592186044416 by simp only [List.length_cons, List.length_nil]; omega)]; rfl) ?_
    refine ih _ (by omega) (by simp only [List.length_append, List.length_cons, List.length_nil]; omega) (fun y => ?_)
    rw [List.mem_append, hm, drop_at (show i < A.length by omega), List.mem_cons]
    simp only [List.mem_cons, List.not_mem_nil, or_false, or_self]
    exact Or.comm

theorem SetsRules : abugidalaw15_SetsRules.Pure := by
  intro l0 l1 _ _ hw0 _ _ hw1
  obtain ⟨hA, hA40⟩ := few_ok hw0
  obtain ⟨hB, hB40⟩ := few_ok hw1
  refine Ev.rounds (g := fun k => abugidalaw15_SetsRules.f k l0 l1) ?_
  unfold abugidalaw15_SetsRules.f
  simp only [few_is, Option.bind_some]
  generalize l0.take 40 = A at *
  generalize l1.take 40 = B at *
  refine Ev.bind ev_sanity ?_
  rw [show wrap64 ((A.length : Int) - 1) = (A.length : Int) - 1 by unfold wrap64; omega]
  exact rules_l0 A B hA hB hA40 hB40 A.length [] (Nat.le_refl _) (by simp only [List.length_nil]; omega) (fun y => by rw [List.drop_eq_nil_of_le (Nat.le_refl _)])

end Go.Proofs.Ytfjiamhgennmbaa.Pure

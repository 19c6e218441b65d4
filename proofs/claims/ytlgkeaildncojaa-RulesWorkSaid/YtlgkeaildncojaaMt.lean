/- rules.Match in plain words. -/
import Derived.Test.YtlgkeaildncojaaChk
import Derived.Test.YtlgkeaildncojaaQx7
namespace Go.Proofs.Ytlgkeaildncojaa.Q
open Go.RowKit Go.Shelf Go.Proofs.YtlgkeaildncojaaW.PrintWords Go.Proofs.YtlgkeaildncojaaW.PrintLast Go.Proofs.YtlgkeaildncojaaW.PrintMore
set_option linter.unusedSimpArgs false
set_option linter.unusedVariables false
set_option linter.unusedSectionVars false
def hasP (l : List Int) (a : Int) : Bool := l.any (fun y => decide (a = y))
theorem dropL (l : List (List Int)) (j : Nat) (h : j < l.length) : l.drop j = l.getD j [] :: l.drop (j + 1) := by
  rw [List.drop_eq_getElem_cons h, List.getD_eq_getElem?_getD, List.getElem?_eq_getElem h]
  rfl
theorem idx_ev (l : List Int) (hl : l.length ≤ 9223372036854775807) (a : Int) : ∀ (d i : Nat), i + d = l.length → Ev (fun k => slices_Index_int_int.l0 k l a (l.length : Int) (i : Int)) (fidx (fun y => decide (a = y)) (l.drop i) i) := by
  intro d
  induction d with
  | zero =>
    intro i h
    rw [List.drop_of_length_le (by omega)]
    refine Ev.step (fun k => by rw [slices_Index_int_int.l0, if_neg (by omega)]) ?_
    exact Ev.now _
  | succ d ih =>
    intro i h
    have h2 := ih (i + 1) (by omega)
    rw [fidx_step (fun y => decide (a = y)) l i 0 (by omega)]
    have q0 : (i : Int) < (l.length : Int) := by omega
    have q1 : (0 : Int) ≤ (i : Int) := by omega
    have hw : wrap64 ((i : Int) + 1) = ((i + 1 : Nat) : Int) := by rw [wr64 _ (by omega) (by omega)]; omega
    refine Ev.step (fun k => by rw [slices_Index_int_int.l0, if_pos q0, if_pos q1, if_pos q0, rdN, hw]) ?_
    by_cases hc : a = l.getD i 0
    · rw [if_pos (decide_eq_true hc)]
      exact Ev.congr (fun k => by rw [if_pos hc]) (Ev.now _)
    · rw [if_neg (by simpa using hc)]
      exact Ev.congr (fun k => by rw [if_neg hc]) h2
theorem has_ev (l : List Int) (hl : l.length ≤ 9223372036854775807) (a : Int) : Ev (fun k => slices_Contains_int_int.f k l a) (hasP l a) := by
  unfold slices_Contains_int_int.f slices_Index_int_int.f
  have h := idx_ev l hl a l.length 0 (by omega)
  refine Ev.bind (g := fun k => slices_Index_int_int.l0 k l a (l.length : Int) 0) h ?_
  have h2 := fidx_any (fun y => decide (a = y)) l 0
  rw [List.drop_zero]
  unfold hasP
  rw [← h2]
  exact Ev.now _
def inP (its : List S55) (c : Int) : Nat → List (List Int) → Bool
  | _, [] => true
  | i, s :: t => if (its.getD i z55).f1 = c then (if hasP s (its.getD i z55).f0 = true then inP its c (i + 1) t else false) else false
def backP (its : List S55) : Nat → List (List Int) → Bool
  | _, [] => true
  | i, s :: t => if hasP s (its.getD (i - 1) z55).f0 = true then backP its (i - 1) t else false
def aheadP (its : List S55) : Nat → List (List Int) → Bool
  | _, [] => true
  | i, s :: t => if hasP s (its.getD i z55).f0 = true then aheadP its (i + 1) t else false
/-- Whether a rule matches at an item. -/
def matchP (r : S49) (its : List S55) (at_ : Int) : Bool :=
  if at_ < 0 ∨ at_ ≥ (its.length : Int) ∨ r.f1.length = 0 ∨ at_ + (r.f1.length : Int) + (r.f2.length : Int) > (its.length : Int) ∨ at_ < (r.f0.length : Int) then false
  else inP its (its.getD at_.toNat z55).f1 at_.toNat r.f1 && (backP its at_.toNat r.f0 && aheadP its (at_.toNat + r.f1.length) r.f2)
theorem rd55 (its : List S55) (i : Nat) : rd_T55 its (i : Int) = its.getD i z55 := by
  unfold rd_T55
  rw [Int.toNat_natCast]
theorem rdL1 (l : List (List Int)) (i : Nat) : rd_L1 l (i : Int) = l.getD i [] := by
  unfold rd_L1
  rw [Int.toNat_natCast]
section
variable (f0 f1 f2 : List (List Int)) (f3 : List Int) (f4 : List S60) (its : List S55)
  (b0 : f0.length ≤ 1000) (b1 : f1.length ≤ 1000) (b2 : f2.length ≤ 1000) (bi : its.length ≤ 1000000)
  (m0 : ∀ s ∈ f0, s.length ≤ 9223372036854775807) (m1 : ∀ s ∈ f1, s.length ≤ 9223372036854775807) (m2 : ∀ s ∈ f2, s.length ≤ 9223372036854775807)
include b0 b1 b2 bi m0 m1 m2
theorem ahead_ev (bh : Nat) (hb : bh + f2.length ≤ its.length) : ∀ (d j : Nat), j + d = f2.length → Ev (fun k => rules_Match.l2 k its (bh : Int) f2 (f2.length : Int) (j : Int)) (aheadP its (bh + j) (f2.drop j)) := by
  intro d
  induction d with
  | zero =>
    intro j h
    rw [List.drop_of_length_le (by omega)]
    refine Ev.step (fun k => by rw [rules_Match.l2, if_neg (by omega)]) ?_
    exact Ev.now _
  | succ d ih =>
    intro j h
    have h2 := ih (j + 1) (by omega)
    rw [dropL f2 j (by omega), aheadP]
    have q0 : (j : Int) < (f2.length : Int) := by omega
    have q1 : (0 : Int) ≤ (j : Int) := by omega
    have hw : wrap64 ((bh : Int) + (j : Int)) = ((bh + j : Nat) : Int) := by rw [wr64 _ (by omega) (by omega)]; omega
    have q2 : (0 : Int) ≤ ((bh + j : Nat) : Int) := by omega
    have q3 : ((bh + j : Nat) : Int) < (its.length : Int) := by omega
    have hw2 : wrap64 ((j : Int) + 1) = ((j + 1 : Nat) : Int) := by rw [wr64 _ (by omega) (by omega)]; omega
    refine Ev.step (fun k => by rw [rules_Match.l2, if_pos q0, if_pos q1, if_pos q0, hw, if_pos q2, if_pos q3, rd55, rdL1, hw2]) ?_
    refine Ev.bind (g := fun k => slices_Contains_int_int.f k (f2.getD j []) (its.getD (bh + j) z55).f0) (has_ev _ (m2 _ (getD_in f2 j [] (by omega))) _) ?_
    by_cases hc : hasP (f2.getD j []) (its.getD (bh + j) z55).f0 = true
    · rw [if_pos hc]
      exact Ev.congr (fun k => by rw [if_pos hc]) h2
    · rw [if_neg hc]
      exact Ev.congr (fun k => by rw [if_neg hc]) (Ev.now _)
theorem back_ev (a bh : Nat) (R : Bool) (ha : f0.length ≤ a) (hi : a < its.length) (hc : Ev (fun k => rules_Match.l2 k its (bh : Int) f2 (f2.length : Int) 0) R) : ∀ (d j : Nat), j + d = f0.length →
    Ev (fun k => rules_Match.l1 k its (a : Int) (bh : Int) f0 (f0.length : Int) (j : Int) f0 f1 f2 f3 f4) (backP its (a - j) (f0.drop j) && R) := by
  intro d
  induction d with
  | zero =>
    intro j h
    rw [List.drop_of_length_le (by omega)]
    refine Ev.step (fun k => by rw [rules_Match.l1, if_neg (by omega)]) ?_
    exact hc
  | succ d ih =>
    intro j h
    have h2 := ih (j + 1) (by omega)
    rw [dropL f0 j (by omega), backP, show a - j - 1 = a - (j + 1) by omega]
    have q0 : (j : Int) < (f0.length : Int) := by omega
    have q1 : (0 : Int) ≤ (j : Int) := by omega
    have hw0 : wrap64 ((a : Int) - 1) = (a : Int) - 1 := wr64 _ (by omega) (by omega)
    have hw : wrap64 ((a : Int) - 1 - (j : Int)) = ((a - (j + 1) : Nat) : Int) := by rw [wr64 _ (by omega) (by omega)]; omega
    have q2 : (0 : Int) ≤ ((a - (j + 1) : Nat) : Int) := by omega
    have q3 : ((a - (j + 1) : Nat) : Int) < (its.length : Int) := by omega
    have hw2 : wrap64 ((j : Int) + 1) = ((j + 1 : Nat) : Int) := by rw [wr64 _ (by omega) (by omega)]; omega
    refine Ev.step (fun k => by rw [rules_Match.l1, if_pos q0, if_pos q1, if_pos q0, hw0, hw, if_pos q2, if_pos q3, rd55, rdL1, hw2]) ?_
    refine Ev.bind (g := fun k => slices_Contains_int_int.f k (f0.getD j []) (its.getD (a - (j + 1)) z55).f0) (has_ev _ (m0 _ (getD_in f0 j [] (by omega))) _) ?_
    by_cases hc : hasP (f0.getD j []) (its.getD (a - (j + 1)) z55).f0 = true
    · rw [if_pos hc]
      exact Ev.congr (fun k => by rw [if_pos hc]) h2
    · rw [if_neg hc, Bool.false_and]
      exact Ev.congr (fun k => by rw [if_neg hc]) (Ev.now _)
theorem in_ev (a bh : Nat) (R : Bool) (hi : a + f1.length ≤ its.length) (ha : a < its.length) (hc : Ev (fun k => rules_Match.l1 k its (a : Int) (bh : Int) f0 (f0.length : Int) 0 f0 f1 f2 f3 f4) R) : ∀ (d j : Nat), j + d = f1.length →
    Ev (fun k => rules_Match.l0 k its (a : Int) (bh : Int) f1 (f1.length : Int) (j : Int) f0 f1 f2 f3 f4) (inP its (its.getD a z55).f1 (a + j) (f1.drop j) && R) := by
  intro d
  induction d with
  | zero =>
    intro j h
    rw [List.drop_of_length_le (by omega)]
    refine Ev.step (fun k => by rw [rules_Match.l0, if_neg (by omega)]) ?_
    exact hc
  | succ d ih =>
    intro j h
    have h2 := ih (j + 1) (by omega)
    rw [dropL f1 j (by omega), inP]
    have q0 : (j : Int) < (f1.length : Int) := by omega
    have q1 : (0 : Int) ≤ (j : Int) := by omega
    have hw : wrap64 ((a : Int) + (j : Int)) = ((a + j : Nat) : Int) := by rw [wr64 _ (by omega) (by omega)]; omega
    have q2 : (0 : Int) ≤ ((a + j : Nat) : Int) := by omega
    have q3 : ((a + j : Nat) : Int) < (its.length : Int) := by omega
    have q4 : (0 : Int) ≤ (a : Int) := by omega
    have q5 : (a : Int) < (its.length : Int) := by omega
    have hw2 : wrap64 ((j : Int) + 1) = ((j + 1 : Nat) : Int) := by rw [wr64 _ (by omega) (by omega)]; omega
    refine Ev.step (fun k => by rw [rules_Match.l0, if_pos q0, if_pos q1, if_pos q0, hw, if_pos q2, if_pos q3, if_pos q4, if_pos q5, rd55, rd55, rdL1, hw2]) ?_
    by_cases hx : (its.getD (a + j) z55).f1 = (its.getD a z55).f1
    · rw [if_pos hx]
      refine Ev.congr (fun k => by rw [if_pos hx]) ?_
      refine Ev.bind (g := fun k => slices_Contains_int_int.f k (f1.getD j []) (its.getD (a + j) z55).f0) (has_ev _ (m1 _ (getD_in f1 j [] (by omega))) _) ?_
      by_cases hc : hasP (f1.getD j []) (its.getD (a + j) z55).f0 = true
      · rw [if_pos hc]
        exact Ev.congr (fun k => by rw [if_pos hc]) h2
      · rw [if_neg hc, Bool.false_and]
        exact Ev.congr (fun k => by rw [if_neg hc]) (Ev.now _)
    · rw [if_neg hx, Bool.false_and]
      exact Ev.congr (fun k => by rw [if_neg hx]) (Ev.now _)
theorem match_ev (at_ : Int) (hat : at_ ≤ 1000000000) : Ev (fun k => rules_Match.f k f0 f1 f2 f3 f4 its at_) (matchP ⟨f0, f1, f2, f3, f4⟩ its at_) := by
  unfold matchP rules_Match.f
  dsimp only
  have stop : Ev (fun k => rules_Match.j0 k its at_ true f0 f1 f2 f3 f4) false := by
    refine Ev.step (fun k => by rw [rules_Match.j0, if_pos rfl]) ?_
    exact Ev.now _
  by_cases h1 : at_ < 0
  · rw [if_pos (.inl h1)]
    exact Ev.congr (fun k => by rw [if_pos h1]) stop
  by_cases h2 : at_ ≥ (its.length : Int)
  · rw [if_pos (.inr (.inl h2))]
    exact Ev.congr (fun k => by rw [if_neg h1, if_pos h2]) stop
  refine Ev.congr (fun k => by rw [if_neg h1, if_neg h2]) ?_
  by_cases h3 : f1.length = 0
  · rw [if_pos (.inr (.inr (.inl h3)))]
    refine Ev.congr (fun k => by rw [show ((f1.length : Int) == 0) = true from beq_iff_eq.mpr (by omega)]) stop
  have e3 : ((f1.length : Int) == 0) = false := beq_eq_false_iff_ne.mpr (by omega)
  obtain ⟨a, rfl⟩ := Int.eq_ofNat_of_zero_le (show 0 ≤ at_ by omega)
  have hw1 : wrap64 (((a : Nat) : Int) + (f1.length : Int)) = ((a + f1.length : Nat) : Int) := by rw [wr64 _ (by omega) (by omega)]; omega
  have hw2 : wrap64 (((a + f1.length : Nat) : Int) + (f2.length : Int)) = ((a + f1.length + f2.length : Nat) : Int) := by rw [wr64 _ (by omega) (by omega)]; omega
  refine Ev.step (fun k => by rw [e3, rules_Match.j0, if_neg (by decide), hw1, hw2]) ?_
  have stop1 : Ev (fun k => rules_Match.j1 k its (a : Int) ((a + f1.length : Nat) : Int) true f0 f1 f2 f3 f4) false := by
    refine Ev.step (fun k => by rw [rules_Match.j1, if_pos rfl]) ?_
    exact Ev.now _
  by_cases h4 : a + f1.length + f2.length > its.length
  · have q : ((a + f1.length + f2.length : Nat) : Int) > (its.length : Int) := by omega
    rw [if_pos (by omega)]
    exact Ev.congr (fun k => by rw [if_pos q]) stop1
  have q4 : ¬ ((a + f1.length + f2.length : Nat) : Int) > (its.length : Int) := by omega
  refine Ev.congr (fun k => by rw [if_neg q4]) ?_
  by_cases h5 : a < f0.length
  · rw [if_pos (by omega)]
    exact Ev.congr (fun k => by rw [show decide ((a : Int) < (f0.length : Int)) = true from decide_eq_true (by omega)]) stop1
  have e5 : decide ((a : Int) < (f0.length : Int)) = false := decide_eq_false (by omega)
  rw [if_neg (by omega)]
  refine Ev.step (fun k => by rw [e5, rules_Match.j1, if_neg (by decide)]) ?_
  have hA := ahead_ev f0 f1 f2 its b0 b1 b2 bi m0 m1 m2 (a + f1.length) (by omega) f2.length 0 (by omega)
  have hB := back_ev f0 f1 f2 f3 f4 its b0 b1 b2 bi m0 m1 m2 a (a + f1.length) _ (by omega) (by omega) hA f0.length 0 (by omega)
  have hC := in_ev f0 f1 f2 f3 f4 its b0 b1 b2 bi m0 m1 m2 a (a + f1.length) _ (by omega) (by omega) hB f1.length 0 (by omega)
  exact hC
end
end Go.Proofs.Ytlgkeaildncojaa.Q

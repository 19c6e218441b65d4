-- Written by wip/tools/myprint.py, a program of this session that drives the kit's print.py; not a text of print.sh.
import Derived.Test.YthllgpjjjegenaaQx0
import Derived.Test.YthllgpjjjegenaaQx7
import Derived.Test.YthllgpjjjegenaaQx13
import Derived.Test.YthllgpjjjegenaaQx16
namespace Go.Proofs.Ythllgpjjjegenaa.Q
open Go.RowKit Go.Proofs.YthllgpjjjegenaaW.PrintWords Go.Proofs.YthllgpjjjegenaaW.PrintLast Go.Proofs.YthllgpjjjegenaaW.PrintMore
attribute [local go_sem] max2_int min2_int max_two min_two max_three min_three max_four min_four   -- for this text's walks alone
set_option linter.unusedVariables false
set_option linter.unusedSimpArgs false

/-! ### abugidalaw08_BreaksGreedy: function 6 -/
mutual
def abugidalaw08_BreaksGreedy.l0 : Nat → Bool → List Int → List (S44) → Int → Int → Int → Option (Bool)
 | 0, _, _, _, _, _, _ => none
 | k + 1, x3, x4, x5, x6, x7, x8 => if x8 < (x4.length : Int) then (if x8 = 0 then (if 0 < (x4.length : Int) then (if (rd x4 0) = 0 then (if x8 > 0 then (if 0 ≤ x8 then (if 0 ≤ (wrap64 (x8 - 1)) then (if (wrap64 (x8 - 1)) < (x4.length : Int) then (if (rd x4 x8) < (rd x4 (wrap64 (x8 - 1))) then (abugidalaw08_BreaksGreedy.j1 k x3 x4 x5 x6 x7 x8 true) else (abugidalaw08_BreaksGreedy.j1 k x3 x4 x5 x6 x7 x8 (decide ((rd x4 x8) > (wrap64 ((rd x4 (wrap64 (x8 - 1))) + 1)))))) else (none)) else (none)) else (none)) else (abugidalaw08_BreaksGreedy.j1 k x3 x4 x5 x6 x7 x8 false)) else (abugidalaw08_BreaksGreedy.j1 k x3 x4 x5 x6 x7 x8 true)) else (none)) else (if x8 > 0 then (if 0 ≤ x8 then (if 0 ≤ (wrap64 (x8 - 1)) then (if (wrap64 (x8 - 1)) < (x4.length : Int) then (if (rd x4 x8) < (rd x4 (wrap64 (x8 - 1))) then (abugidalaw08_BreaksGreedy.j1 k x3 x4 x5 x6 x7 x8 true) else (abugidalaw08_BreaksGreedy.j1 k x3 x4 x5 x6 x7 x8 (decide ((rd x4 x8) > (wrap64 ((rd x4 (wrap64 (x8 - 1))) + 1)))))) else (none)) else (none)) else (none)) else (abugidalaw08_BreaksGreedy.j1 k x3 x4 x5 x6 x7 x8 false))) else (some x3)
def abugidalaw08_BreaksGreedy.j1 : Nat → Bool → List Int → List (S44) → Int → Int → Int → Bool → Option (Bool)
 | 0, _, _, _, _, _, _, _ => none
 | k + 1, x3, x4, x5, x6, x7, x8, x81 => if x81 = true then (some false) else (if x8 > 0 then (if 0 ≤ x8 then (if x8 < (x4.length : Int) then (if 0 ≤ (wrap64 (x8 - 1)) then (if (wrap64 (x8 - 1)) < (x4.length : Int) then (abugidalaw08_BreaksGreedy.j2 k x3 x4 x5 x6 x7 x8 (decide ((rd x4 x8) > (rd x4 (wrap64 (x8 - 1)))))) else (none)) else (none)) else (none)) else (none)) else (abugidalaw08_BreaksGreedy.j2 k x3 x4 x5 x6 x7 x8 false))
def abugidalaw08_BreaksGreedy.j2 : Nat → Bool → List Int → List (S44) → Int → Int → Int → Bool → Option (Bool)
 | 0, _, _, _, _, _, _, _ => none
 | k + 1, x3, x4, x5, x6, x7, x8, x95 => if x95 = true then (abugidalaw08_BreaksGreedy.j3 k x3 x4 x5 x6 x8 x8) else (abugidalaw08_BreaksGreedy.j3 k x3 x4 x5 x6 x7 x8)
def abugidalaw08_BreaksGreedy.j3 : Nat → Bool → List Int → List (S44) → Int → Int → Int → Option (Bool)
 | 0, _, _, _, _, _, _ => none
 | k + 1, x3, x4, x5, x6, x7, x8 => if x8 = (wrap64 ((x4.length : Int) - 1)) then (abugidalaw08_BreaksGreedy.j4 k x3 x4 x5 x6 x7 x8 true) else (if 0 ≤ (wrap64 (x8 + 1)) then (if (wrap64 (x8 + 1)) < (x4.length : Int) then (if 0 ≤ x8 then (if x8 < (x4.length : Int) then (abugidalaw08_BreaksGreedy.j4 k x3 x4 x5 x6 x7 x8 (decide ((rd x4 (wrap64 (x8 + 1))) > (rd x4 x8)))) else (none)) else (none)) else (none)) else (none))
def abugidalaw08_BreaksGreedy.j4 : Nat → Bool → List Int → List (S44) → Int → Int → Int → Bool → Option (Bool)
 | 0, _, _, _, _, _, _, _ => none
 | k + 1, x3, x4, x5, x6, x7, x8, x9 => if x9 = true then ((abugidalaw08_sum.f k x5 x7 x8).bind fun t457 => (if t457 > x6 then (abugidalaw08_BreaksGreedy.j5 k x3 x4 x5 x6 x7 x8 (decide (x8 > x7))) else (abugidalaw08_BreaksGreedy.j5 k x3 x4 x5 x6 x7 x8 false))) else (if 0 ≤ x8 then (if x8 < (x5.length : Int) then (if ((rd_T44 x5 x8).f1) = 2 then (some false) else (abugidalaw08_BreaksGreedy.l0 k x3 x4 x5 x6 x7 (wrap64 (x8 + 1)))) else (none)) else (none))
def abugidalaw08_BreaksGreedy.j5 : Nat → Bool → List Int → List (S44) → Int → Int → Int → Bool → Option (Bool)
 | 0, _, _, _, _, _, _, _ => none
 | k + 1, x3, x4, x5, x6, x7, x8, x132 => if x132 = true then (some false) else (if x8 = (wrap64 ((x4.length : Int) - 1)) then (abugidalaw08_BreaksGreedy.j6 k x3 x4 x5 x6 x7 x8 true) else (if 0 ≤ x8 then (if x8 < (x5.length : Int) then (abugidalaw08_BreaksGreedy.j6 k x3 x4 x5 x6 x7 x8 (((rd_T44 x5 x8).f1) == 2)) else (none)) else (none)))
def abugidalaw08_BreaksGreedy.j6 : Nat → Bool → List Int → List (S44) → Int → Int → Int → Bool → Option (Bool)
 | 0, _, _, _, _, _, _, _ => none
 | k + 1, x3, x4, x5, x6, x7, x8, x145 => if x145 = true then (abugidalaw08_BreaksGreedy.l0 k x3 x4 x5 x6 x7 (wrap64 (x8 + 1))) else (abugidalaw08_BreaksGreedy.l1 k x3 x4 x5 x6 x7 x8 (wrap64 (x8 + 1)))
def abugidalaw08_BreaksGreedy.l1 : Nat → Bool → List Int → List (S44) → Int → Int → Int → Int → Option (Bool)
 | 0, _, _, _, _, _, _, _ => none
 | k + 1, x3, x4, x5, x6, x7, x8, x10 => if x10 < (x4.length : Int) then ((abugidalaw08_sum.f k x5 x7 x10).bind fun t459 => (abugidalaw08_BreaksGreedy.j8 k x3 x4 x5 x6 x7 x8 x10 (decide (t459 ≤ x6)))) else (abugidalaw08_BreaksGreedy.j8 k x3 x4 x5 x6 x7 x8 x10 false)
def abugidalaw08_BreaksGreedy.j8 : Nat → Bool → List Int → List (S44) → Int → Int → Int → Int → Bool → Option (Bool)
 | 0, _, _, _, _, _, _, _, _ => none
 | k + 1, x3, x4, x5, x6, x7, x8, x10, x159 => if x159 = true then (if 0 ≤ x10 then (if x10 < (x5.length : Int) then (if ((rd_T44 x5 x10).f1) = 1 then (abugidalaw08_BreaksGreedy.j9 k x3 x4 x5 x6 x7 x8 x10 true) else (if ((rd_T44 x5 x10).f1) = 2 then (abugidalaw08_BreaksGreedy.j9 k x3 x4 x5 x6 x7 x8 x10 true) else (abugidalaw08_BreaksGreedy.j9 k x3 x4 x5 x6 x7 x8 x10 (x10 == (wrap64 ((x4.length : Int) - 1)))))) else (none)) else (none)) else (abugidalaw08_BreaksGreedy.l0 k x3 x4 x5 x6 x7 (wrap64 (x8 + 1)))
def abugidalaw08_BreaksGreedy.j9 : Nat → Bool → List Int → List (S44) → Int → Int → Int → Int → Bool → Option (Bool)
 | 0, _, _, _, _, _, _, _, _ => none
 | k + 1, x3, x4, x5, x6, x7, x8, x10, x182 => if x182 = true then (some false) else (if 0 ≤ x8 then (if x8 < (x5.length : Int) then (if ((rd_T44 x5 x8).f1) = 1 then (abugidalaw08_BreaksGreedy.l1 k x3 x4 x5 x6 x7 x8 (wrap64 (x10 + 1))) else (some false)) else (none)) else (none))
end
def abugidalaw08_BreaksGreedy.f (k : Nat) (l0_0 : List Int) (l0_1 : List Int) (l0_2 : List Bool) (a0_3 : Int) : Option (Bool) := (abugidalaw08_sanity.f k).bind fun t426 => ((abugidalaw08_Line_cut.f l0_0 l0_1 l0_2 a0_3).bind fun bt427 => ((breaks_Fill.f k bt427.1 bt427.2.1 bt427.2.2.1 bt427.2.2.2).bind fun t437 => ((abugidaref08_Elements.f k bt427.1 bt427.2.1 bt427.2.2.1).bind fun t440 => (if (t437.length : Int) = (t440.length : Int) then (abugidalaw08_BreaksGreedy.l0 k t426 t437 t440 (mx 0 (mn bt427.2.2.2 10000)) 0 0) else (some false)))))
theorem abugidalaw08_BreaksGreedy.mono_l : ∀ k, (∀ y0 y1 y2 y3 y4 y5, LeO (abugidalaw08_BreaksGreedy.l0 k y0 y1 y2 y3 y4 y5) (abugidalaw08_BreaksGreedy.l0 (k + 1) y0 y1 y2 y3 y4 y5)) ∧ (∀ y0 y1 y2 y3 y4 y5 y6, LeO (abugidalaw08_BreaksGreedy.j1 k y0 y1 y2 y3 y4 y5 y6) (abugidalaw08_BreaksGreedy.j1 (k + 1) y0 y1 y2 y3 y4 y5 y6)) ∧ (∀ y0 y1 y2 y3 y4 y5 y6, LeO (abugidalaw08_BreaksGreedy.j2 k y0 y1 y2 y3 y4 y5 y6) (abugidalaw08_BreaksGreedy.j2 (k + 1) y0 y1 y2 y3 y4 y5 y6)) ∧ (∀ y0 y1 y2 y3 y4 y5, LeO (abugidalaw08_BreaksGreedy.j3 k y0 y1 y2 y3 y4 y5) (abugidalaw08_BreaksGreedy.j3 (k + 1) y0 y1 y2 y3 y4 y5)) ∧ (∀ y0 y1 y2 y3 y4 y5 y6, LeO (abugidalaw08_BreaksGreedy.j4 k y0 y1 y2 y3 y4 y5 y6) (abugidalaw08_BreaksGreedy.j4 (k + 1) y0 y1 y2 y3 y4 y5 y6)) ∧ (∀ y0 y1 y2 y3 y4 y5 y6, LeO (abugidalaw08_BreaksGreedy.j5 k y0 y1 y2 y3 y4 y5 y6) (abugidalaw08_BreaksGreedy.j5 (k + 1) y0 y1 y2 y3 y4 y5 y6)) ∧ (∀ y0 y1 y2 y3 y4 y5 y6, LeO (abugidalaw08_BreaksGreedy.j6 k y0 y1 y2 y3 y4 y5 y6) (abugidalaw08_BreaksGreedy.j6 (k + 1) y0 y1 y2 y3 y4 y5 y6)) ∧ (∀ y0 y1 y2 y3 y4 y5 y6, LeO (abugidalaw08_BreaksGreedy.l1 k y0 y1 y2 y3 y4 y5 y6) (abugidalaw08_BreaksGreedy.l1 (k + 1) y0 y1 y2 y3 y4 y5 y6)) ∧ (∀ y0 y1 y2 y3 y4 y5 y6 y7, LeO (abugidalaw08_BreaksGreedy.j8 k y0 y1 y2 y3 y4 y5 y6 y7) (abugidalaw08_BreaksGreedy.j8 (k + 1) y0 y1 y2 y3 y4 y5 y6 y7)) ∧ (∀ y0 y1 y2 y3 y4 y5 y6 y7, LeO (abugidalaw08_BreaksGreedy.j9 k y0 y1 y2 y3 y4 y5 y6 y7) (abugidalaw08_BreaksGreedy.j9 (k + 1) y0 y1 y2 y3 y4 y5 y6 y7))
 | 0 => ⟨fun _ _ _ _ _ _ r h => by simp [abugidalaw08_BreaksGreedy.l0] at h, fun _ _ _ _ _ _ _ r h => by simp [abugidalaw08_BreaksGreedy.j1] at h, fun _ _ _ _ _ _ _ r h => by simp [abugidalaw08_BreaksGreedy.j2] at h, fun _ _ _ _ _ _ r h => by simp [abugidalaw08_BreaksGreedy.j3] at h, fun _ _ _ _ _ _ _ r h => by simp [abugidalaw08_BreaksGreedy.j4] at h, fun _ _ _ _ _ _ _ r h => by simp [abugidalaw08_BreaksGreedy.j5] at h, fun _ _ _ _ _ _ _ r h => by simp [abugidalaw08_BreaksGreedy.j6] at h, fun _ _ _ _ _ _ _ r h => by simp [abugidalaw08_BreaksGreedy.l1] at h, fun _ _ _ _ _ _ _ _ r h => by simp [abugidalaw08_BreaksGreedy.j8] at h, fun _ _ _ _ _ _ _ _ r h => by simp [abugidalaw08_BreaksGreedy.j9] at h⟩
 | k + 1 => by
  obtain ⟨ih0, ih1, ih2, ih3, ih4, ih5, ih6, ih7, ih8, ih9⟩ := abugidalaw08_BreaksGreedy.mono_l k
  refine ⟨?_, ?_, ?_, ?_, ?_, ?_, ?_, ?_, ?_, ?_⟩
  ·
   intro y0 y1 y2 y3 y4 y5
   unfold abugidalaw08_BreaksGreedy.l0
   repeat' first
   | (with_reducible exact ih0 _ _ _ _ _ _)
   | (with_reducible exact ih1 _ _ _ _ _ _ _)
   | (with_reducible exact ih2 _ _ _ _ _ _ _)
   | (with_reducible exact ih3 _ _ _ _ _ _)
   | (with_reducible exact ih4 _ _ _ _ _ _ _)
   | (with_reducible exact ih5 _ _ _ _ _ _ _)
   | (with_reducible exact ih6 _ _ _ _ _ _ _)
   | (with_reducible exact ih7 _ _ _ _ _ _ _)
   | (with_reducible exact ih8 _ _ _ _ _ _ _ _)
   | (with_reducible exact ih9 _ _ _ _ _ _ _ _)
   | (with_reducible exact abugidalaw08_sanity.mono _)
   | (with_reducible exact abugidalaw08_sum.mono _ _ _ _)
   | (with_reducible exact abugidaref08_Elements.mono _ _ _ _)
   | (with_reducible exact breaks_Fill.mono _ _ _ _ _)
   | (with_reducible exact LeO.refl _)
   | (with_reducible exact LeO.none _)
   | (with_reducible refine LeO.ite ?_ ?_)
   | (with_reducible refine LeO.bind ?_ (fun _ => ?_))
   | exact ih0 _ _ _ _ _ _
   | exact ih1 _ _ _ _ _ _ _
   | exact ih2 _ _ _ _ _ _ _
   | exact ih3 _ _ _ _ _ _
   | exact ih4 _ _ _ _ _ _ _
   | exact ih5 _ _ _ _ _ _ _
   | exact ih6 _ _ _ _ _ _ _
   | exact ih7 _ _ _ _ _ _ _
   | exact ih8 _ _ _ _ _ _ _ _
   | exact ih9 _ _ _ _ _ _ _ _
   | exact abugidalaw08_sanity.mono _
   | exact abugidalaw08_sum.mono _ _ _ _
   | exact abugidaref08_Elements.mono _ _ _ _
   | exact breaks_Fill.mono _ _ _ _ _
   | exact LeO.none _
   | refine LeO.ite ?_ ?_
   | refine LeO.bind ?_ (fun _ => ?_)
  ·
   intro y0 y1 y2 y3 y4 y5 y6
   unfold abugidalaw08_BreaksGreedy.j1
   repeat' first
   | (with_reducible exact ih0 _ _ _ _ _ _)
   | (with_reducible exact ih1 _ _ _ _ _ _ _)
   | (with_reducible exact ih2 _ _ _ _ _ _ _)
   | (with_reducible exact ih3 _ _ _ _ _ _)
   | (with_reducible exact ih4 _ _ _ _ _ _ _)
   | (with_reducible exact ih5 _ _ _ _ _ _ _)
   | (with_reducible exact ih6 _ _ _ _ _ _ _)
   | (with_reducible exact ih7 _ _ _ _ _ _ _)
   | (with_reducible exact ih8 _ _ _ _ _ _ _ _)
   | (with_reducible exact ih9 _ _ _ _ _ _ _ _)
   | (with_reducible exact abugidalaw08_sanity.mono _)
   | (with_reducible exact abugidalaw08_sum.mono _ _ _ _)
   | (with_reducible exact abugidaref08_Elements.mono _ _ _ _)
   | (with_reducible exact breaks_Fill.mono _ _ _ _ _)
   | (with_reducible exact LeO.refl _)
   | (with_reducible exact LeO.none _)
   | (with_reducible refine LeO.ite ?_ ?_)
   | (with_reducible refine LeO.bind ?_ (fun _ => ?_))
   | exact ih0 _ _ _ _ _ _
   | exact ih1 _ _ _ _ _ _ _
   | exact ih2 _ _ _ _ _ _ _
   | exact ih3 _ _ _ _ _ _
   | exact ih4 _ _ _ _ _ _ _
   | exact ih5 _ _ _ _ _ _ _
   | exact ih6 _ _ _ _ _ _ _
   | exact ih7 _ _ _ _ _ _ _
   | exact ih8 _ _ _ _ _ _ _ _
   | exact ih9 _ _ _ _ _ _ _ _
   | exact abugidalaw08_sanity.mono _
   | exact abugidalaw08_sum.mono _ _ _ _
   | exact abugidaref08_Elements.mono _ _ _ _
   | exact breaks_Fill.mono _ _ _ _ _
   | exact LeO.none _
   | refine LeO.ite ?_ ?_
   | refine LeO.bind ?_ (fun _ => ?_)
  ·
   intro y0 y1 y2 y3 y4 y5 y6
   unfold abugidalaw08_BreaksGreedy.j2
   repeat' first
   | (with_reducible exact ih0 _ _ _ _ _ _)
   | (with_reducible exact ih1 _ _ _ _ _ _ _)
   | (with_reducible exact ih2 _ _ _ _ _ _ _)
   | (with_reducible exact ih3 _ _ _ _ _ _)
   | (with_reducible exact ih4 _ _ _ _ _ _ _)
   | (with_reducible exact ih5 _ _ _ _ _ _ _)
   | (with_reducible exact ih6 _ _ _ _ _ _ _)
   | (with_reducible exact ih7 _ _ _ _ _ _ _)
   | (with_reducible exact ih8 _ _ _ _ _ _ _ _)
   | (with_reducible exact ih9 _ _ _ _ _ _ _ _)
   | (with_reducible exact abugidalaw08_sanity.mono _)
   | (with_reducible exact abugidalaw08_sum.mono _ _ _ _)
   | (with_reducible exact abugidaref08_Elements.mono _ _ _ _)
   | (with_reducible exact breaks_Fill.mono _ _ _ _ _)
   | (with_reducible exact LeO.refl _)
   | (with_reducible exact LeO.none _)
   | (with_reducible refine LeO.ite ?_ ?_)
   | (with_reducible refine LeO.bind ?_ (fun _ => ?_))
   | exact ih0 _ _ _ _ _ _
   | exact ih1 _ _ _ _ _ _ _
   | exact ih2 _ _ _ _ _ _ _
   | exact ih3 _ _ _ _ _ _
   | exact ih4 _ _ _ _ _ _ _
   | exact ih5 _ _ _ _ _ _ _
   | exact ih6 _ _ _ _ _ _ _
   | exact ih7 _ _ _ _ _ _ _
   | exact ih8 _ _ _ _ _ _ _ _
   | exact ih9 _ _ _ _ _ _ _ _
   | exact abugidalaw08_sanity.mono _
   | exact abugidalaw08_sum.mono _ _ _ _
   | exact abugidaref08_Elements.mono _ _ _ _
   | exact breaks_Fill.mono _ _ _ _ _
   | exact LeO.none _
   | refine LeO.ite ?_ ?_
   | refine LeO.bind ?_ (fun _ => ?_)
  ·
   intro y0 y1 y2 y3 y4 y5
   unfold abugidalaw08_BreaksGreedy.j3
   repeat' first
   | (with_reducible exact ih0 _ _ _ _ _ _)
   | (with_reducible exact ih1 _ _ _ _ _ _ _)
   | (with_reducible exact ih2 _ _ _ _ _ _ _)
   | (with_reducible exact ih3 _ _ _ _ _ _)
   | (with_reducible exact ih4 _ _ _ _ _ _ _)
   | (with_reducible exact ih5 _ _ _ _ _ _ _)
   | (with_reducible exact ih6 _ _ _ _ _ _ _)
   | (with_reducible exact ih7 _ _ _ _ _ _ _)
   | (with_reducible exact ih8 _ _ _ _ _ _ _ _)
   | (with_reducible exact ih9 _ _ _ _ _ _ _ _)
   | (with_reducible exact abugidalaw08_sanity.mono _)
   | (with_reducible exact abugidalaw08_sum.mono _ _ _ _)
   | (with_reducible exact abugidaref08_Elements.mono _ _ _ _)
   | (with_reducible exact breaks_Fill.mono _ _ _ _ _)
   | (with_reducible exact LeO.refl _)
   | (with_reducible exact LeO.none _)
   | (with_reducible refine LeO.ite ?_ ?_)
   | (with_reducible refine LeO.bind ?_ (fun _ => ?_))
   | exact ih0 _ _ _ _ _ _
   | exact ih1 _ _ _ _ _ _ _
   | exact ih2 _ _ _ _ _ _ _
   | exact ih3 _ _ _ _ _ _
   | exact ih4 _ _ _ _ _ _ _
   | exact ih5 _ _ _ _ _ _ _
   | exact ih6 _ _ _ _ _ _ _
   | exact ih7 _ _ _ _ _ _ _
   | exact ih8 _ _ _ _ _ _ _ _
   | exact ih9 _ _ _ _ _ _ _ _
   | exact abugidalaw08_sanity.mono _
   | exact abugidalaw08_sum.mono _ _ _ _
   | exact abugidaref08_Elements.mono _ _ _ _
   | exact breaks_Fill.mono _ _ _ _ _
   | exact LeO.none _
   | refine LeO.ite ?_ ?_
   | refine LeO.bind ?_ (fun _ => ?_)
  ·
   intro y0 y1 y2 y3 y4 y5 y6
   unfold abugidalaw08_BreaksGreedy.j4
   repeat' first
   | (with_reducible exact ih0 _ _ _ _ _ _)
   | (with_reducible exact ih1 _ _ _ _ _ _ _)
   | (with_reducible exact ih2 _ _ _ _ _ _ _)
   | (with_reducible exact ih3 _ _ _ _ _ _)
   | (with_reducible exact ih4 _ _ _ _ _ _ _)
   | (with_reducible exact ih5 _ _ _ _ _ _ _)
   | (with_reducible exact ih6 _ _ _ _ _ _ _)
   | (with_reducible exact ih7 _ _ _ _ _ _ _)
   | (with_reducible exact ih8 _ _ _ _ _ _ _ _)
   | (with_reducible exact ih9 _ _ _ _ _ _ _ _)
   | (with_reducible exact abugidalaw08_sanity.mono _)
   | (with_reducible exact abugidalaw08_sum.mono _ _ _ _)
   | (with_reducible exact abugidaref08_Elements.mono _ _ _ _)
   | (with_reducible exact breaks_Fill.mono _ _ _ _ _)
   | (with_reducible exact LeO.refl _)
   | (with_reducible exact LeO.none _)
   | (with_reducible refine LeO.ite ?_ ?_)
   | (with_reducible refine LeO.bind ?_ (fun _ => ?_))
   | exact ih0 _ _ _ _ _ _
   | exact ih1 _ _ _ _ _ _ _
   | exact ih2 _ _ _ _ _ _ _
   | exact ih3 _ _ _ _ _ _
   | exact ih4 _ _ _ _ _ _ _
   | exact ih5 _ _ _ _ _ _ _
   | exact ih6 _ _ _ _ _ _ _
   | exact ih7 _ _ _ _ _ _ _
   | exact ih8 _ _ _ _ _ _ _ _
   | exact ih9 _ _ _ _ _ _ _ _
   | exact abugidalaw08_sanity.mono _
   | exact abugidalaw08_sum.mono _ _ _ _
   | exact abugidaref08_Elements.mono _ _ _ _
   | exact breaks_Fill.mono _ _ _ _ _
   | exact LeO.none _
   | refine LeO.ite ?_ ?_
   | refine LeO.bind ?_ (fun _ => ?_)
  ·
   intro y0 y1 y2 y3 y4 y5 y6
   unfold abugidalaw08_BreaksGreedy.j5
   repeat' first
   | (with_reducible exact ih0 _ _ _ _ _ _)
   | (with_reducible exact ih1 _ _ _ _ _ _ _)
   | (with_reducible exact ih2 _ _ _ _ _ _ _)
   | (with_reducible exact ih3 _ _ _ _ _ _)
   | (with_reducible exact ih4 _ _ _ _ _ _ _)
   | (with_reducible exact ih5 _ _ _ _ _ _ _)
   | (with_reducible exact ih6 _ _ _ _ _ _ _)
   | (with_reducible exact ih7 _ _ _ _ _ _ _)
   | (with_reducible exact ih8 _ _ _ _ _ _ _ _)
   | (with_reducible exact ih9 _ _ _ _ _ _ _ _)
   | (with_reducible exact abugidalaw08_sanity.mono _)
   | (with_reducible exact abugidalaw08_sum.mono _ _ _ _)
   | (with_reducible exact abugidaref08_Elements.mono _ _ _ _)
   | (with_reducible exact breaks_Fill.mono _ _ _ _ _)
   | (with_reducible exact LeO.refl _)
   | (with_reducible exact LeO.none _)
   | (with_reducible refine LeO.ite ?_ ?_)
   | (with_reducible refine LeO.bind ?_ (fun _ => ?_))
   | exact ih0 _ _ _ _ _ _
   | exact ih1 _ _ _ _ _ _ _
   | exact ih2 _ _ _ _ _ _ _
   | exact ih3 _ _ _ _ _ _
   | exact ih4 _ _ _ _ _ _ _
   | exact ih5 _ _ _ _ _ _ _
   | exact ih6 _ _ _ _ _ _ _
   | exact ih7 _ _ _ _ _ _ _
   | exact ih8 _ _ _ _ _ _ _ _
   | exact ih9 _ _ _ _ _ _ _ _
   | exact abugidalaw08_sanity.mono _
   | exact abugidalaw08_sum.mono _ _ _ _
   | exact abugidaref08_Elements.mono _ _ _ _
   | exact breaks_Fill.mono _ _ _ _ _
   | exact LeO.none _
   | refine LeO.ite ?_ ?_
   | refine LeO.bind ?_ (fun _ => ?_)
  ·
   intro y0 y1 y2 y3 y4 y5 y6
   unfold abugidalaw08_BreaksGreedy.j6
   repeat' first
   | (with_reducible exact ih0 _ _ _ _ _ _)
   | (with_reducible exact ih1 _ _ _ _ _ _ _)
   | (with_reducible exact ih2 _ _ _ _ _ _ _)
   | (with_reducible exact ih3 _ _ _ _ _ _)
   | (with_reducible exact ih4 _ _ _ _ _ _ _)
   | (with_reducible exact ih5 _ _ _ _ _ _ _)
   | (with_reducible exact ih6 _ _ _ _ _ _ _)
   | (with_reducible exact ih7 _ _ _ _ _ _ _)
   | (with_reducible exact ih8 _ _ _ _ _ _ _ _)
   | (with_reducible exact ih9 _ _ _ _ _ _ _ _)
   | (with_reducible exact abugidalaw08_sanity.mono _)
   | (with_reducible exact abugidalaw08_sum.mono _ _ _ _)
   | (with_reducible exact abugidaref08_Elements.mono _ _ _ _)
   | (with_reducible exact breaks_Fill.mono _ _ _ _ _)
   | (with_reducible exact LeO.refl _)
   | (with_reducible exact LeO.none _)
   | (with_reducible refine LeO.ite ?_ ?_)
   | (with_reducible refine LeO.bind ?_ (fun _ => ?_))
   | exact ih0 _ _ _ _ _ _
   | exact ih1 _ _ _ _ _ _ _
   | exact ih2 _ _ _ _ _ _ _
   | exact ih3 _ _ _ _ _ _
   | exact ih4 _ _ _ _ _ _ _
   | exact ih5 _ _ _ _ _ _ _
   | exact ih6 _ _ _ _ _ _ _
   | exact ih7 _ _ _ _ _ _ _
   | exact ih8 _ _ _ _ _ _ _ _
   | exact ih9 _ _ _ _ _ _ _ _
   | exact abugidalaw08_sanity.mono _
   | exact abugidalaw08_sum.mono _ _ _ _
   | exact abugidaref08_Elements.mono _ _ _ _
   | exact breaks_Fill.mono _ _ _ _ _
   | exact LeO.none _
   | refine LeO.ite ?_ ?_
   | refine LeO.bind ?_ (fun _ => ?_)
  ·
   intro y0 y1 y2 y3 y4 y5 y6
   unfold abugidalaw08_BreaksGreedy.l1
   repeat' first
   | (with_reducible exact ih0 _ _ _ _ _ _)
   | (with_reducible exact ih1 _ _ _ _ _ _ _)
   | (with_reducible exact ih2 _ _ _ _ _ _ _)
   | (with_reducible exact ih3 _ _ _ _ _ _)
   | (with_reducible exact ih4 _ _ _ _ _ _ _)
   | (with_reducible exact ih5 _ _ _ _ _ _ _)
   | (with_reducible exact ih6 _ _ _ _ _ _ _)
   | (with_reducible exact ih7 _ _ _ _ _ _ _)
   | (with_reducible exact ih8 _ _ _ _ _ _ _ _)
   | (with_reducible exact ih9 _ _ _ _ _ _ _ _)
   | (with_reducible exact abugidalaw08_sanity.mono _)
   | (with_reducible exact abugidalaw08_sum.mono _ _ _ _)
   | (with_reducible exact abugidaref08_Elements.mono _ _ _ _)
   | (with_reducible exact breaks_Fill.mono _ _ _ _ _)
   | (with_reducible exact LeO.refl _)
   | (with_reducible exact LeO.none _)
   | (with_reducible refine LeO.ite ?_ ?_)
   | (with_reducible refine LeO.bind ?_ (fun _ => ?_))
   | exact ih0 _ _ _ _ _ _
   | exact ih1 _ _ _ _ _ _ _
   | exact ih2 _ _ _ _ _ _ _
   | exact ih3 _ _ _ _ _ _
   | exact ih4 _ _ _ _ _ _ _
   | exact ih5 _ _ _ _ _ _ _
   | exact ih6 _ _ _ _ _ _ _
   | exact ih7 _ _ _ _ _ _ _
   | exact ih8 _ _ _ _ _ _ _ _
   | exact ih9 _ _ _ _ _ _ _ _
   | exact abugidalaw08_sanity.mono _
   | exact abugidalaw08_sum.mono _ _ _ _
   | exact abugidaref08_Elements.mono _ _ _ _
   | exact breaks_Fill.mono _ _ _ _ _
   | exact LeO.none _
   | refine LeO.ite ?_ ?_
   | refine LeO.bind ?_ (fun _ => ?_)
  ·
   intro y0 y1 y2 y3 y4 y5 y6 y7
   unfold abugidalaw08_BreaksGreedy.j8
   repeat' first
   | (with_reducible exact ih0 _ _ _ _ _ _)
   | (with_reducible exact ih1 _ _ _ _ _ _ _)
   | (with_reducible exact ih2 _ _ _ _ _ _ _)
   | (with_reducible exact ih3 _ _ _ _ _ _)
   | (with_reducible exact ih4 _ _ _ _ _ _ _)
   | (with_reducible exact ih5 _ _ _ _ _ _ _)
   | (with_reducible exact ih6 _ _ _ _ _ _ _)
   | (with_reducible exact ih7 _ _ _ _ _ _ _)
   | (with_reducible exact ih8 _ _ _ _ _ _ _ _)
   | (with_reducible exact ih9 _ _ _ _ _ _ _ _)
   | (with_reducible exact abugidalaw08_sanity.mono _)
   | (with_reducible exact abugidalaw08_sum.mono _ _ _ _)
   | (with_reducible exact abugidaref08_Elements.mono _ _ _ _)
   | (with_reducible exact breaks_Fill.mono _ _ _ _ _)
   | (with_reducible exact LeO.refl _)
   | (with_reducible exact LeO.none _)
   | (with_reducible refine LeO.ite ?_ ?_)
   | (with_reducible refine LeO.bind ?_ (fun _ => ?_))
   | exact ih0 _ _ _ _ _ _
   | exact ih1 _ _ _ _ _ _ _
   | exact ih2 _ _ _ _ _ _ _
   | exact ih3 _ _ _ _ _ _
   | exact ih4 _ _ _ _ _ _ _
   | exact ih5 _ _ _ _ _ _ _
   | exact ih6 _ _ _ _ _ _ _
   | exact ih7 _ _ _ _ _ _ _
   | exact ih8 _ _ _ _ _ _ _ _
   | exact ih9 _ _ _ _ _ _ _ _
   | exact abugidalaw08_sanity.mono _
   | exact abugidalaw08_sum.mono _ _ _ _
   | exact abugidaref08_Elements.mono _ _ _ _
   | exact breaks_Fill.mono _ _ _ _ _
   | exact LeO.none _
   | refine LeO.ite ?_ ?_
   | refine LeO.bind ?_ (fun _ => ?_)
  ·
   intro y0 y1 y2 y3 y4 y5 y6 y7
   unfold abugidalaw08_BreaksGreedy.j9
   repeat' first
   | (with_reducible exact ih0 _ _ _ _ _ _)
   | (with_reducible exact ih1 _ _ _ _ _ _ _)
   | (with_reducible exact ih2 _ _ _ _ _ _ _)
   | (with_reducible exact ih3 _ _ _ _ _ _)
   | (with_reducible exact ih4 _ _ _ _ _ _ _)
   | (with_reducible exact ih5 _ _ _ _ _ _ _)
   | (with_reducible exact ih6 _ _ _ _ _ _ _)
   | (with_reducible exact ih7 _ _ _ _ _ _ _)
   | (with_reducible exact ih8 _ _ _ _ _ _ _ _)
   | (with_reducible exact ih9 _ _ _ _ _ _ _ _)
   | (with_reducible exact abugidalaw08_sanity.mono _)
   | (with_reducible exact abugidalaw08_sum.mono _ _ _ _)
   | (with_reducible exact abugidaref08_Elements.mono _ _ _ _)
   | (with_reducible exact breaks_Fill.mono _ _ _ _ _)
   | (with_reducible exact LeO.refl _)
   | (with_reducible exact LeO.none _)
   | (with_reducible refine LeO.ite ?_ ?_)
   | (with_reducible refine LeO.bind ?_ (fun _ => ?_))
   | exact ih0 _ _ _ _ _ _
   | exact ih1 _ _ _ _ _ _ _
   | exact ih2 _ _ _ _ _ _ _
   | exact ih3 _ _ _ _ _ _
   | exact ih4 _ _ _ _ _ _ _
   | exact ih5 _ _ _ _ _ _ _
   | exact ih6 _ _ _ _ _ _ _
   | exact ih7 _ _ _ _ _ _ _
   | exact ih8 _ _ _ _ _ _ _ _
   | exact ih9 _ _ _ _ _ _ _ _
   | exact abugidalaw08_sanity.mono _
   | exact abugidalaw08_sum.mono _ _ _ _
   | exact abugidaref08_Elements.mono _ _ _ _
   | exact breaks_Fill.mono _ _ _ _ _
   | exact LeO.none _
   | refine LeO.ite ?_ ?_
   | refine LeO.bind ?_ (fun _ => ?_)
theorem abugidalaw08_BreaksGreedy.mono : ∀ a0 a1 a2 a3 k, LeO (abugidalaw08_BreaksGreedy.f k a0 a1 a2 a3) (abugidalaw08_BreaksGreedy.f (k + 1) a0 a1 a2 a3) := by
 intro a0 a1 a2 a3 k
 obtain ⟨ih0, ih1, ih2, ih3, ih4, ih5, ih6, ih7, ih8, ih9⟩ := abugidalaw08_BreaksGreedy.mono_l k
 unfold abugidalaw08_BreaksGreedy.f
 repeat' first
   | (with_reducible exact ih0 _ _ _ _ _ _)
   | (with_reducible exact ih1 _ _ _ _ _ _ _)
   | (with_reducible exact ih2 _ _ _ _ _ _ _)
   | (with_reducible exact ih3 _ _ _ _ _ _)
   | (with_reducible exact ih4 _ _ _ _ _ _ _)
   | (with_reducible exact ih5 _ _ _ _ _ _ _)
   | (with_reducible exact ih6 _ _ _ _ _ _ _)
   | (with_reducible exact ih7 _ _ _ _ _ _ _)
   | (with_reducible exact ih8 _ _ _ _ _ _ _ _)
   | (with_reducible exact ih9 _ _ _ _ _ _ _ _)
   | (with_reducible exact abugidalaw08_sanity.mono _)
   | (with_reducible exact abugidalaw08_sum.mono _ _ _ _)
   | (with_reducible exact abugidaref08_Elements.mono _ _ _ _)
   | (with_reducible exact breaks_Fill.mono _ _ _ _ _)
   | (with_reducible exact LeO.refl _)
   | (with_reducible exact LeO.none _)
   | (with_reducible refine LeO.ite ?_ ?_)
   | (with_reducible refine LeO.bind ?_ (fun _ => ?_))
   | exact ih0 _ _ _ _ _ _
   | exact ih1 _ _ _ _ _ _ _
   | exact ih2 _ _ _ _ _ _ _
   | exact ih3 _ _ _ _ _ _
   | exact ih4 _ _ _ _ _ _ _
   | exact ih5 _ _ _ _ _ _ _
   | exact ih6 _ _ _ _ _ _ _
   | exact ih7 _ _ _ _ _ _ _
   | exact ih8 _ _ _ _ _ _ _ _
   | exact ih9 _ _ _ _ _ _ _ _
   | exact abugidalaw08_sanity.mono _
   | exact abugidalaw08_sum.mono _ _ _ _
   | exact abugidaref08_Elements.mono _ _ _ _
   | exact breaks_Fill.mono _ _ _ _ _
   | exact LeO.none _
   | refine LeO.ite ?_ ?_
   | refine LeO.bind ?_ (fun _ => ?_)
set_option maxHeartbeats 8000000 in
set_option maxRecDepth 100000 in
theorem abugidalaw08_BreaksGreedy.calls (k : Nat) (A0_0 : Option Addr) (c0_0 : Nat) (l0_0 : List Int) (A0_1 : Option Addr) (c0_1 : Nat) (l0_1 : List Int) (A0_2 : Option Addr) (c0_2 : Nat) (l0_2 : List Bool) (a0_3 : Int) (r : Bool) (w : World) (hr0_0 : Kd.C (Kd.int .i64) w A0_0 l0_0.length l0_0) (hc0_0 : l0_0.length ≤ c0_0) (hr0_1 : Kd.C (Kd.int .i64) w A0_1 l0_1.length l0_1) (hc0_1 : l0_1.length ≤ c0_1) (hr0_2 : Kd.C Kd.bool w A0_2 l0_2.length l0_2) (hc0_2 : l0_2.length ≤ c0_2) (h : abugidalaw08_BreaksGreedy.f k l0_0 l0_1 l0_2 a0_3 = some r) :
  Calls Try.prog 6 #[.agg #[.slice A0_0 l0_0.length c0_0, .slice A0_1 l0_1.length c0_1, .slice A0_2 l0_2.length c0_2, .int .i64 a0_3]] w fun e w' => e = .returned (.bool r) ∧ Below w.heap.size w w' := by
 have hu37 := Try.underlying37
 have HR0_0 := Aside0.mk hr0_0
 have HC0_0 := Aside0.mk hc0_0
 clear hr0_0 hc0_0
 have HR0_1 := Aside0.mk hr0_1
 have HC0_1 := Aside0.mk hc0_1
 clear hr0_1 hc0_1
 have HR0_2 := Aside0.mk hr0_2
 have HC0_2 := Aside0.mk hc0_2
 clear hr0_2 hc0_2
 have HB := Aside0.mk (Below.refl w.heap.size w)
 have H : ((abugidalaw08_sanity.f k).bind fun t426 => ((abugidalaw08_Line_cut.f l0_0 l0_1 l0_2 a0_3).bind fun bt427 => ((breaks_Fill.f k bt427.1 bt427.2.1 bt427.2.2.1 bt427.2.2.2).bind fun t437 => ((abugidaref08_Elements.f k bt427.1 bt427.2.1 bt427.2.2.1).bind fun t440 => (if (t437.length : Int) = (t440.length : Int) then (abugidalaw08_BreaksGreedy.l0 k t426 t437 t440 (mx 0 (mn bt427.2.2.2 10000)) 0 0) else (some false)))))) = some r := h
 clear h
 replace H := Option.bind_eq_some_iff.mp H
 obtain ⟨t426, A20, H⟩ := H
 replace H : ((abugidalaw08_Line_cut.f l0_0 l0_1 l0_2 a0_3).bind fun bt427 => ((breaks_Fill.f k bt427.1 bt427.2.1 bt427.2.2.1 bt427.2.2.2).bind fun t437 => ((abugidaref08_Elements.f k bt427.1 bt427.2.1 bt427.2.2.1).bind fun t440 => (if (t437.length : Int) = (t440.length : Int) then (abugidalaw08_BreaksGreedy.l0 k t426 t437 t440 (mx 0 (mn bt427.2.2.2 10000)) 0 0) else (some false))))) = some r := H
 have A2 := Aside0.mk A20
 clear A20
 replace H := Option.bind_eq_some_iff.mp H
 obtain ⟨⟨t427, t430, t433, t436⟩, A30, H⟩ := H
 replace H : ((breaks_Fill.f k t427 t430 t433 t436).bind fun t437 => ((abugidaref08_Elements.f k t427 t430 t433).bind fun t440 => (if (t437.length : Int) = (t440.length : Int) then (abugidalaw08_BreaksGreedy.l0 k t426 t437 t440 (mx 0 (mn t436 10000)) 0 0) else (some false)))) = some r := H
 have A3 := Aside0.mk A30
 clear A30
 replace H := Option.bind_eq_some_iff.mp H
 obtain ⟨t437, A40, H⟩ := H
 replace H : ((abugidaref08_Elements.f k t427 t430 t433).bind fun t440 => (if (t437.length : Int) = (t440.length : Int) then (abugidalaw08_BreaksGreedy.l0 k t426 t437 t440 (mx 0 (mn t436 10000)) 0 0) else (some false))) = some r := H
 have A4 := Aside0.mk A40
 clear A40
 replace H := Option.bind_eq_some_iff.mp H
 obtain ⟨t440, A50, H⟩ := H
 replace H : (if (t437.length : Int) = (t440.length : Int) then (abugidalaw08_BreaksGreedy.l0 k t426 t437 t440 (mx 0 (mn t436 10000)) 0 0) else (some false)) = some r := H
 have A5 := Aside0.mk A50
 clear A50
 obtain ⟨ji6, hji6⟩ : ∃ j_ : Int, (mn t436 10000) = j_ := ⟨_, rfl⟩
 replace H : (if (t437.length : Int) = (t440.length : Int) then (abugidalaw08_BreaksGreedy.l0 k t426 t437 t440 (mx 0 (ji6)) 0 0) else (some false)) = some r := by first | (rw [hji6] at H; exact H) | (simp only [hji6] at H ⊢; exact H)
 (try rw [hji6] at A2)
 (try rw [hji6] at A3)
 (try rw [hji6] at A4)
 (try rw [hji6] at A5)
 (try (have hji6h : ji6 ≤ 10000 := by (rw [← hji6]; unfold mn; (repeat' split) <;> omega)))
 (try (have hji6g : ji6 ≤ 64 := by omega))
 have hji6_ : (if 10000 < t436 then 10000 else t436) = ji6 := hji6
 obtain ⟨ji7, hji7⟩ : ∃ j_ : Int, (mx 0 (ji6)) = j_ := ⟨_, rfl⟩
 replace H : (if (t437.length : Int) = (t440.length : Int) then (abugidalaw08_BreaksGreedy.l0 k t426 t437 t440 ji7 0 0) else (some false)) = some r := by first | (rw [hji7] at H; exact H) | (simp only [hji7] at H ⊢; exact H)
 (try rw [hji7] at A2)
 (try rw [hji7] at A3)
 (try rw [hji7] at A4)
 (try rw [hji7] at A5)
 have hji7_ : (if 0 < (ji6) then (ji6) else 0) = ji7 := hji7
 by_cases c8 : (t437.length : Int) = (t440.length : Int)
 ·
  rw [if_pos c8] at H
  have c8b0 : ((t437.length : Int) == (t440.length : Int)) = true := beq_iff_eq.mpr c8
  have c8b1 : ((t437.length : Int) != (t440.length : Int)) = false := bne_eq_false_iff_eq.mpr c8
  have c8b2 : (t437.length == t440.length) = true := by first | simpa using c8 | (simp at c8 ⊢; omega)
  clear c8
  have H' := Aside0.mk H
  clear H
  go_enter Try.func6, Try.ntmps6
  go_wp2_with (first | ((with_reducible refine gate_dst (N := 1) rfl ?_); (try (refine gate_guard (by rfl) ?_; dsimp only)); refine box_event ?hg (N := 1) ?hd (cs := #[.slice A0_0 l0_0.length c0_0, .slice A0_1 l0_1.length c0_1, .slice A0_2 l0_2.length c0_2, .int .i64 a0_3]) (t := 37) ?hr ?_; (case hd => rfl); (case hg => rfl); (case hr => first | (go_simp; done) | (go_simp; rfl)); intro gb425 hg w9 hbox hb; have n0_ := Aside0.mk (below_step (by repeat (first | (with_reducible first | exact HB.out | apply below_alloc | apply pw_below_drewN | apply below_drew1) | exact HB.out)) hb); have n1_ := Aside0.mk (hbox); have n2_ := Aside0.mk ((by rw [hg]; exact (below_size (by repeat (first | (with_reducible first | exact HB.out | apply below_alloc | apply pw_below_drewN | apply below_drew1) | exact HB.out))) : w.heap.size ≤ gb425)); have n3_ := Aside0.mk ((by rw [hg]; exact (below_size (by repeat (first | (with_reducible first | exact HB.out | apply below_alloc | apply pw_below_drewN | apply below_drew1) | exact HB.out))) : w.heap.size ≤ gb425)); clear HB; have HB := n0_; have BK425 := n1_; have GW425 := n2_; have GE425 := n3_; clear n0_ n1_ n2_ n3_; clear hb hbox hg) | (go_at_call 9; (with_reducible refine (abugidalaw08_sanity.calls k  t426 _ A2.out).mono ?_); rintro e w10 ⟨rfl, hb⟩; have n0_ := Aside0.mk (blk_below (g := gb425) (o := .cells #[.slice A0_0 l0_0.length c0_0, .slice A0_1 l0_1.length c0_1, .slice A0_2 l0_2.length c0_2, .int .i64 a0_3] 37 (0, 0)) (by (with_reducible repeat (first | refine blk_drewN ?_ _ | refine blk_drew ?_ | refine blk_alloc ?_ _)); exact BK425.out) hb); have n1_ := Aside0.mk (below_step (by repeat (first | (with_reducible first | exact HB.out | apply below_alloc | apply pw_below_drewN | apply below_drew1 | refine below_set ?_ GE425.out) | exact HB.out)) hb); clear BK425; clear HB; have BK425 := n0_; have HB := n1_; clear n0_ n1_; (try clear hb); (try clear hb2); (try clear hk); (try clear hi); have hcz11_0 : w10.cell? ⟨gb425, 0, none⟩ = some (.slice A0_0 l0_0.length c0_0) := (blk_cell BK425.out 0).trans rfl; have hcz11_1 : w10.cell? ⟨gb425, 1, none⟩ = some (.slice A0_1 l0_1.length c0_1) := (blk_cell BK425.out 1).trans rfl; have hcz11_2 : w10.cell? ⟨gb425, 2, none⟩ = some (.slice A0_2 l0_2.length c0_2) := (blk_cell BK425.out 2).trans rfl; have hcz11_3 : w10.cell? ⟨gb425, 3, none⟩ = some (.int .i64 a0_3) := (blk_cell BK425.out 3).trans rfl; have hfz11_0 := blk_frozen BK425.out 0; have hfz11_1 := blk_frozen BK425.out 1; have hfz11_2 := blk_frozen BK425.out 2; have hfz11_3 := blk_frozen BK425.out 3) | (go_at_call 17; (with_reducible refine (abugidalaw08_Line_cut.calls (fun k_ => k_ < w.heap.size) _ _ l0_0 (fun k_ => k_ < w.heap.size) _ _ l0_1 (fun k_ => k_ < w.heap.size) _ _ l0_2 a0_3 t427 t430 t433 t436 _ ?side1 ?side2 ?side3 A3.out).mono ?_); (case side1 => exact Kd.V_mk HC0_0.out (Kd.F_below (Kd.C_F (Kd.heap_int .i64) HR0_0.out) (by repeat (first | (with_reducible first | exact HB.out | apply below_alloc | apply pw_below_drewN | apply below_drew1 | refine below_set ?_ GE425.out) | exact HB.out)))); (case side2 => exact Kd.V_mk HC0_1.out (Kd.F_below (Kd.C_F (Kd.heap_int .i64) HR0_1.out) (by repeat (first | (with_reducible first | exact HB.out | apply below_alloc | apply pw_below_drewN | apply below_drew1 | refine below_set ?_ GE425.out) | exact HB.out)))); (case side3 => exact Kd.V_mk HC0_2.out (Kd.F_below (Kd.C_F Kd.heap_bool HR0_2.out) (by repeat (first | (with_reducible first | exact HB.out | apply below_alloc | apply pw_below_drewN | apply below_drew1 | refine below_set ?_ GE425.out) | exact HB.out)))); rintro e w12 ⟨v428, v431, v434, rfl, ho0, ho1, ho2, hb⟩; have n0_ := Aside0.mk (Kd.V_lower (Kd.V_mono (ok' := fun k_ => k_ ≠ gb425) ho0 (fun k_ hk_ => Or.elim hk_ (fun hs_ => Or.elim hs_ (fun hs_ => fun e_ => Nat.not_le.2 hs_ (by rw [e_]; exact GW425.out)) (fun hs_ => Or.elim hs_ (fun hs_ => fun e_ => Nat.not_le.2 hs_ (by rw [e_]; exact GW425.out)) (fun hs_ => fun e_ => Nat.not_le.2 hs_ (by rw [e_]; exact GW425.out)))) (fun hn_ => (Kd.freshB (g := gb425) (o := .cells #[.slice A0_0 l0_0.length c0_0, .slice A0_1 l0_1.length c0_1, .slice A0_2 l0_2.length c0_2, .int .i64 a0_3] 37 (0, 0)) (by (with_reducible repeat (first | refine blk_drewN ?_ _ | refine blk_drew ?_ | refine blk_alloc ?_ _)); exact BK425.out) k_ hn_)))) (below_size (by repeat (first | (with_reducible first | exact HB.out | apply below_alloc | apply pw_below_drewN | apply below_drew1 | refine below_set ?_ GE425.out) | exact HB.out)))); have n1_ := Aside0.mk (Kd.V_lower (Kd.V_mono (ok' := fun k_ => k_ ≠ gb425) ho1 (fun k_ hk_ => Or.elim hk_ (fun hs_ => Or.elim hs_ (fun hs_ => fun e_ => Nat.not_le.2 hs_ (by rw [e_]; exact GW425.out)) (fun hs_ => Or.elim hs_ (fun hs_ => fun e_ => Nat.not_le.2 hs_ (by rw [e_]; exact GW425.out)) (fun hs_ => fun e_ => Nat.not_le.2 hs_ (by rw [e_]; exact GW425.out)))) (fun hn_ => (Kd.freshB (g := gb425) (o := .cells #[.slice A0_0 l0_0.length c0_0, .slice A0_1 l0_1.length c0_1, .slice A0_2 l0_2.length c0_2, .int .i64 a0_3] 37 (0, 0)) (by (with_reducible repeat (first | refine blk_drewN ?_ _ | refine blk_drew ?_ | refine blk_alloc ?_ _)); exact BK425.out) k_ hn_)))) (below_size (by repeat (first | (with_reducible first | exact HB.out | apply below_alloc | apply pw_below_drewN | apply below_drew1 | refine below_set ?_ GE425.out) | exact HB.out)))); have n2_ := Aside0.mk (Kd.V_lower (Kd.V_mono (ok' := fun k_ => k_ ≠ gb425) ho2 (fun k_ hk_ => Or.elim hk_ (fun hs_ => Or.elim hs_ (fun hs_ => fun e_ => Nat.not_le.2 hs_ (by rw [e_]; exact GW425.out)) (fun hs_ => Or.elim hs_ (fun hs_ => fun e_ => Nat.not_le.2 hs_ (by rw [e_]; exact GW425.out)) (fun hs_ => fun e_ => Nat.not_le.2 hs_ (by rw [e_]; exact GW425.out)))) (fun hn_ => (Kd.freshB (g := gb425) (o := .cells #[.slice A0_0 l0_0.length c0_0, .slice A0_1 l0_1.length c0_1, .slice A0_2 l0_2.length c0_2, .int .i64 a0_3] 37 (0, 0)) (by (with_reducible repeat (first | refine blk_drewN ?_ _ | refine blk_drew ?_ | refine blk_alloc ?_ _)); exact BK425.out) k_ hn_)))) (below_size (by repeat (first | (with_reducible first | exact HB.out | apply below_alloc | apply pw_below_drewN | apply below_drew1 | refine below_set ?_ GE425.out) | exact HB.out)))); have n3_ := Aside0.mk (blk_below (g := gb425) (o := .cells #[.slice A0_0 l0_0.length c0_0, .slice A0_1 l0_1.length c0_1, .slice A0_2 l0_2.length c0_2, .int .i64 a0_3] 37 (0, 0)) (by (with_reducible repeat (first | refine blk_drewN ?_ _ | refine blk_drew ?_ | refine blk_alloc ?_ _)); exact BK425.out) hb); have n4_ := Aside0.mk (below_step (by repeat (first | (with_reducible first | exact HB.out | apply below_alloc | apply pw_below_drewN | apply below_drew1 | refine below_set ?_ GE425.out) | exact HB.out)) hb); clear BK425; clear HB; have HO429 := n0_; have HO432 := n1_; have HO435 := n2_; have BK425 := n3_; have HB := n4_; clear n0_ n1_ n2_ n3_ n4_; (try clear hb); (try clear hb2); (try clear hk); (try clear hi); (try clear ho0); (try clear ho1); (try clear ho2); obtain ⟨Ao13, co13, eo13⟩ := Kd.V_slice HO429.out; subst eo13; have hcz14_0 : w12.cell? ⟨gb425, 0, none⟩ = some (.slice A0_0 l0_0.length c0_0) := (blk_cell BK425.out 0).trans rfl; have hcz14_1 : w12.cell? ⟨gb425, 1, none⟩ = some (.slice A0_1 l0_1.length c0_1) := (blk_cell BK425.out 1).trans rfl; have hcz14_2 : w12.cell? ⟨gb425, 2, none⟩ = some (.slice A0_2 l0_2.length c0_2) := (blk_cell BK425.out 2).trans rfl; have hcz14_3 : w12.cell? ⟨gb425, 3, none⟩ = some (.int .i64 a0_3) := (blk_cell BK425.out 3).trans rfl; have hfz14_0 := blk_frozen BK425.out 0; have hfz14_1 := blk_frozen BK425.out 1; have hfz14_2 := blk_frozen BK425.out 2; have hfz14_3 := blk_frozen BK425.out 3; obtain ⟨Ao15, co15, eo15⟩ := Kd.V_slice HO432.out; subst eo15; obtain ⟨Ao16, co16, eo16⟩ := Kd.V_slice HO435.out; subst eo16) | (go_at_call 18; (with_reducible refine (breaks_Fill.calls k _ _ t427 _ _ t430 _ _ t433 t436 t437 _ ?side1 ?side2 ?side3 ?side4 ?side5 ?side6 A4.out).mono ?_); (case side1 => refine (Kd.V_reads' (e := 3) (base := w.heap.size) (ok := fun k_ => k_ ≠ gb425) (n := t427.length) (c := co13) ?_).2.2; exact (by (with_reducible repeat (first | apply Kd.V_alloc | apply Kd.V_drewN | apply Kd.V_drew)); exact (Kd.V_mono (Kd.V_far (p := ⟨gb425, 3, none⟩) (Kd.V_far (p := ⟨gb425, 2, none⟩) (Kd.V_far (p := ⟨gb425, 1, none⟩) (Kd.V_far (p := ⟨gb425, 0, none⟩) (Kd.V_mono HO429.out (fun k_ hk => (⟨hk, hk⟩ : _ ∧ k_ ≠ gb425))) (fun _ hk => hk.2) (.slice Ao13 t427.length co13)) (fun _ hk => hk.2) (.slice Ao15 t430.length co15)) (fun _ hk => hk.2) (.slice Ao16 t433.length co16)) (fun _ hk => hk.2) (.int .i64 t436)) (fun _ h_ => h_.1)))); (case side2 => exact (Kd.V_reads' HO429.out).2.1); (case side3 => refine (Kd.V_reads' (e := 3) (base := w.heap.size) (ok := fun k_ => k_ ≠ gb425) (n := t430.length) (c := co15) ?_).2.2; exact (by (with_reducible repeat (first | apply Kd.V_alloc | apply Kd.V_drewN | apply Kd.V_drew)); exact (Kd.V_mono (Kd.V_far (p := ⟨gb425, 3, none⟩) (Kd.V_far (p := ⟨gb425, 2, none⟩) (Kd.V_far (p := ⟨gb425, 1, none⟩) (Kd.V_far (p := ⟨gb425, 0, none⟩) (Kd.V_mono HO432.out (fun k_ hk => (⟨hk, hk⟩ : _ ∧ k_ ≠ gb425))) (fun _ hk => hk.2) (.slice Ao13 t427.length co13)) (fun _ hk => hk.2) (.slice Ao15 t430.length co15)) (fun _ hk => hk.2) (.slice Ao16 t433.length co16)) (fun _ hk => hk.2) (.int .i64 t436)) (fun _ h_ => h_.1)))); (case side4 => exact (Kd.V_reads' HO432.out).2.1); (case side5 => refine (Kd.V_reads' (e := 4) (base := w.heap.size) (ok := fun k_ => k_ ≠ gb425) (n := t433.length) (c := co16) ?_).2.2; exact (by (with_reducible repeat (first | apply Kd.V_alloc | apply Kd.V_drewN | apply Kd.V_drew)); exact (Kd.V_mono (Kd.V_far (p := ⟨gb425, 3, none⟩) (Kd.V_far (p := ⟨gb425, 2, none⟩) (Kd.V_far (p := ⟨gb425, 1, none⟩) (Kd.V_far (p := ⟨gb425, 0, none⟩) (Kd.V_mono HO435.out (fun k_ hk => (⟨hk, hk⟩ : _ ∧ k_ ≠ gb425))) (fun _ hk => hk.2) (.slice Ao13 t427.length co13)) (fun _ hk => hk.2) (.slice Ao15 t430.length co15)) (fun _ hk => hk.2) (.slice Ao16 t433.length co16)) (fun _ hk => hk.2) (.int .i64 t436)) (fun _ h_ => h_.1)))); (case side6 => exact (Kd.V_reads' HO435.out).2.1); rintro e w17 ⟨v438, rfl, ho0, hb⟩; have n0_ := Aside0.mk (Kd.V_elder' (by (with_reducible repeat (first | apply Kd.V_alloc | apply Kd.V_drewN | apply Kd.V_drew)); exact (Kd.V_mono (Kd.V_far (p := ⟨gb425, 3, none⟩) (Kd.V_far (p := ⟨gb425, 2, none⟩) (Kd.V_far (p := ⟨gb425, 1, none⟩) (Kd.V_far (p := ⟨gb425, 0, none⟩) (Kd.V_mono HO429.out (fun k_ hk => (⟨hk, hk⟩ : _ ∧ k_ ≠ gb425))) (fun _ hk => hk.2) (.slice Ao13 t427.length co13)) (fun _ hk => hk.2) (.slice Ao15 t430.length co15)) (fun _ hk => hk.2) (.slice Ao16 t433.length co16)) (fun _ hk => hk.2) (.int .i64 t436)) (fun _ h_ => h_.1))) (Kd.R_base ho0) hb); have n1_ := Aside0.mk (Kd.V_elder' (by (with_reducible repeat (first | apply Kd.V_alloc | apply Kd.V_drewN | apply Kd.V_drew)); exact (Kd.V_mono (Kd.V_far (p := ⟨gb425, 3, none⟩) (Kd.V_far (p := ⟨gb425, 2, none⟩) (Kd.V_far (p := ⟨gb425, 1, none⟩) (Kd.V_far (p := ⟨gb425, 0, none⟩) (Kd.V_mono HO432.out (fun k_ hk => (⟨hk, hk⟩ : _ ∧ k_ ≠ gb425))) (fun _ hk => hk.2) (.slice Ao13 t427.length co13)) (fun _ hk => hk.2) (.slice Ao15 t430.length co15)) (fun _ hk => hk.2) (.slice Ao16 t433.length co16)) (fun _ hk => hk.2) (.int .i64 t436)) (fun _ h_ => h_.1))) (Kd.R_base ho0) hb); have n2_ := Aside0.mk (Kd.V_elder' (by (with_reducible repeat (first | apply Kd.V_alloc | apply Kd.V_drewN | apply Kd.V_drew)); exact (Kd.V_mono (Kd.V_far (p := ⟨gb425, 3, none⟩) (Kd.V_far (p := ⟨gb425, 2, none⟩) (Kd.V_far (p := ⟨gb425, 1, none⟩) (Kd.V_far (p := ⟨gb425, 0, none⟩) (Kd.V_mono HO435.out (fun k_ hk => (⟨hk, hk⟩ : _ ∧ k_ ≠ gb425))) (fun _ hk => hk.2) (.slice Ao13 t427.length co13)) (fun _ hk => hk.2) (.slice Ao15 t430.length co15)) (fun _ hk => hk.2) (.slice Ao16 t433.length co16)) (fun _ hk => hk.2) (.int .i64 t436)) (fun _ h_ => h_.1))) (Kd.R_base ho0) hb); have n3_ := Aside0.mk (Kd.R_lower ho0 (below_size (by repeat (first | (with_reducible first | exact HB.out | apply below_alloc | apply pw_below_drewN | apply below_drew1 | refine below_set ?_ GE425.out) | exact HB.out)))); have n4_ := Aside0.mk (blk_below (g := gb425) (o := .cells #[.slice Ao13 t427.length co13, .slice Ao15 t430.length co15, .slice Ao16 t433.length co16, .int .i64 t436] 37 (0, 0)) (by (with_reducible repeat (first | refine blk_drewN ?_ _ | refine blk_drew ?_ | refine blk_alloc ?_ _)); refine blk_put (cs := #[.slice Ao13 t427.length co13, .slice Ao15 t430.length co15, .slice Ao16 t433.length co16, .int .i64 a0_3]) ?_ 3 _ rfl; (with_reducible repeat (first | refine blk_drewN ?_ _ | refine blk_drew ?_ | refine blk_alloc ?_ _)); refine blk_put (cs := #[.slice Ao13 t427.length co13, .slice Ao15 t430.length co15, .slice A0_2 l0_2.length c0_2, .int .i64 a0_3]) ?_ 2 _ rfl; (with_reducible repeat (first | refine blk_drewN ?_ _ | refine blk_drew ?_ | refine blk_alloc ?_ _)); refine blk_put (cs := #[.slice Ao13 t427.length co13, .slice A0_1 l0_1.length c0_1, .slice A0_2 l0_2.length c0_2, .int .i64 a0_3]) ?_ 1 _ rfl; (with_reducible repeat (first | refine blk_drewN ?_ _ | refine blk_drew ?_ | refine blk_alloc ?_ _)); refine blk_put (cs := #[.slice A0_0 l0_0.length c0_0, .slice A0_1 l0_1.length c0_1, .slice A0_2 l0_2.length c0_2, .int .i64 a0_3]) ?_ 0 _ rfl; (with_reducible repeat (first | refine blk_drewN ?_ _ | refine blk_drew ?_ | refine blk_alloc ?_ _)); exact BK425.out) hb); have n5_ := Aside0.mk (below_step (by repeat (first | (with_reducible first | exact HB.out | apply below_alloc | apply pw_below_drewN | apply below_drew1 | refine below_set ?_ GE425.out) | exact HB.out)) hb); clear HO429; clear HO432; clear HO435; clear BK425; clear HB; have HO429 := n0_; have HO432 := n1_; have HO435 := n2_; have HO439 := n3_; have BK425 := n4_; have HB := n5_; clear n0_ n1_ n2_ n3_ n4_ n5_; (try clear hb); (try clear hb2); (try clear hk); (try clear hi); (try clear ho0); have hcz18_0 : w17.cell? ⟨gb425, 0, none⟩ = some (.slice Ao13 t427.length co13) := (blk_cell BK425.out 0).trans rfl; have hcz18_1 : w17.cell? ⟨gb425, 1, none⟩ = some (.slice Ao15 t430.length co15) := (blk_cell BK425.out 1).trans rfl; have hcz18_2 : w17.cell? ⟨gb425, 2, none⟩ = some (.slice Ao16 t433.length co16) := (blk_cell BK425.out 2).trans rfl; have hcz18_3 : w17.cell? ⟨gb425, 3, none⟩ = some (.int .i64 t436) := (blk_cell BK425.out 3).trans rfl; have hfz18_0 := blk_frozen BK425.out 0; have hfz18_1 := blk_frozen BK425.out 1; have hfz18_2 := blk_frozen BK425.out 2; have hfz18_3 := blk_frozen BK425.out 3) | (go_at_call 20; (with_reducible refine (abugidaref08_Elements.calls k _ _ t427 _ _ t430 _ _ t433 t440 _ ?side1 ?side2 ?side3 ?side4 ?side5 ?side6 A5.out).mono ?_); (case side1 => repeat (first | exact (Kd.V_reads' HO429.out).2.2 | (with_reducible refine Kd.C_alloc ?_ _) | (with_reducible refine Kd.C_drewN ?_ _) | (with_reducible refine Kd.C_drew ?_))); (case side2 => exact (Kd.V_reads' HO429.out).2.1); (case side3 => repeat (first | exact (Kd.V_reads' HO432.out).2.2 | (with_reducible refine Kd.C_alloc ?_ _) | (with_reducible refine Kd.C_drewN ?_ _) | (with_reducible refine Kd.C_drew ?_))); (case side4 => exact (Kd.V_reads' HO432.out).2.1); (case side5 => repeat (first | exact (Kd.V_reads' HO435.out).2.2 | (with_reducible refine Kd.C_alloc ?_ _) | (with_reducible refine Kd.C_drewN ?_ _) | (with_reducible refine Kd.C_drew ?_))); (case side6 => exact (Kd.V_reads' HO435.out).2.1); rintro e w19 ⟨v441, rfl, ho0, hb⟩; have n0_ := Aside0.mk (Kd.V_elder' (by (with_reducible repeat (first | apply Kd.V_alloc | apply Kd.V_drewN | apply Kd.V_drew)); exact HO429.out) (Kd.R_base ho0) hb); have n1_ := Aside0.mk (Kd.V_elder' (by (with_reducible repeat (first | apply Kd.V_alloc | apply Kd.V_drewN | apply Kd.V_drew)); exact HO432.out) (Kd.R_base ho0) hb); have n2_ := Aside0.mk (Kd.V_elder' (by (with_reducible repeat (first | apply Kd.V_alloc | apply Kd.V_drewN | apply Kd.V_drew)); exact HO435.out) (Kd.R_base ho0) hb); have n3_ := Aside0.mk (Kd.R_below (by (with_reducible repeat (first | apply Kd.R_alloc | apply Kd.R_drewN | apply Kd.R_drew)); exact HO439.out) hb); have n4_ := Aside0.mk (Kd.R_lower ho0 (below_size (by repeat (first | (with_reducible first | exact HB.out | apply below_alloc | apply pw_below_drewN | apply below_drew1 | refine below_set ?_ GE425.out) | exact HB.out)))); have n5_ := Aside0.mk (blk_below (g := gb425) (o := .cells #[.slice Ao13 t427.length co13, .slice Ao15 t430.length co15, .slice Ao16 t433.length co16, .int .i64 t436] 37 (0, 0)) (by (with_reducible repeat (first | refine blk_drewN ?_ _ | refine blk_drew ?_ | refine blk_alloc ?_ _)); exact BK425.out) hb); have n6_ := Aside0.mk (below_step (by repeat (first | (with_reducible first | exact HB.out | apply below_alloc | apply pw_below_drewN | apply below_drew1 | refine below_set ?_ GE425.out) | exact HB.out)) hb); clear HO429; clear HO432; clear HO435; clear HO439; clear BK425; clear HB; have HO429 := n0_; have HO432 := n1_; have HO435 := n2_; have HO439 := n3_; have HO442 := n4_; have BK425 := n5_; have HB := n6_; clear n0_ n1_ n2_ n3_ n4_ n5_ n6_; (try clear hb); (try clear hb2); (try clear hk); (try clear hi); (try clear ho0); have hcz20_0 : w19.cell? ⟨gb425, 0, none⟩ = some (.slice Ao13 t427.length co13) := (blk_cell BK425.out 0).trans rfl; have hcz20_1 : w19.cell? ⟨gb425, 1, none⟩ = some (.slice Ao15 t430.length co15) := (blk_cell BK425.out 1).trans rfl; have hcz20_2 : w19.cell? ⟨gb425, 2, none⟩ = some (.slice Ao16 t433.length co16) := (blk_cell BK425.out 2).trans rfl; have hcz20_3 : w19.cell? ⟨gb425, 3, none⟩ = some (.int .i64 t436) := (blk_cell BK425.out 3).trans rfl; have hfz20_0 := blk_frozen BK425.out 0; have hfz20_1 := blk_frozen BK425.out 1; have hfz20_2 := blk_frozen BK425.out 2; have hfz20_3 := blk_frozen BK425.out 3; obtain ⟨Ao21, co21, eo21⟩ := Kd.R_slice HO439.out; subst eo21; obtain ⟨Ao22, co22, eo22⟩ := Kd.R_slice HO442.out; subst eo22))
  repeat (go_quiet (fail); try go_wp2_with (first | ((with_reducible refine gate_dst (N := 1) rfl ?_); (try (refine gate_guard (by rfl) ?_; dsimp only)); refine box_event ?hg (N := 1) ?hd (cs := #[.slice A0_0 l0_0.length c0_0, .slice A0_1 l0_1.length c0_1, .slice A0_2 l0_2.length c0_2, .int .i64 a0_3]) (t := 37) ?hr ?_; (case hd => rfl); (case hg => rfl); (case hr => first | (go_simp; done) | (go_simp; rfl)); intro gb425 hg w9 hbox hb; have n0_ := Aside0.mk (below_step (by repeat (first | (with_reducible first | exact HB.out | apply below_alloc | apply pw_below_drewN | apply below_drew1) | exact HB.out)) hb); have n1_ := Aside0.mk (hbox); have n2_ := Aside0.mk ((by rw [hg]; exact (below_size (by repeat (first | (with_reducible first | exact HB.out | apply below_alloc | apply pw_below_drewN | apply below_drew1) | exact HB.out))) : w.heap.size ≤ gb425)); have n3_ := Aside0.mk ((by rw [hg]; exact (below_size (by repeat (first | (with_reducible first | exact HB.out | apply below_alloc | apply pw_below_drewN | apply below_drew1) | exact HB.out))) : w.heap.size ≤ gb425)); clear HB; have HB := n0_; have BK425 := n1_; have GW425 := n2_; have GE425 := n3_; clear n0_ n1_ n2_ n3_; clear hb hbox hg) | (go_at_call 9; (with_reducible refine (abugidalaw08_sanity.calls k  t426 _ A2.out).mono ?_); rintro e w10 ⟨rfl, hb⟩; have n0_ := Aside0.mk (blk_below (g := gb425) (o := .cells #[.slice A0_0 l0_0.length c0_0, .slice A0_1 l0_1.length c0_1, .slice A0_2 l0_2.length c0_2, .int .i64 a0_3] 37 (0, 0)) (by (with_reducible repeat (first | refine blk_drewN ?_ _ | refine blk_drew ?_ | refine blk_alloc ?_ _)); exact BK425.out) hb); have n1_ := Aside0.mk (below_step (by repeat (first | (with_reducible first | exact HB.out | apply below_alloc | apply pw_below_drewN | apply below_drew1 | refine below_set ?_ GE425.out) | exact HB.out)) hb); clear BK425; clear HB; have BK425 := n0_; have HB := n1_; clear n0_ n1_; (try clear hb); (try clear hb2); (try clear hk); (try clear hi); have hcz11_0 : w10.cell? ⟨gb425, 0, none⟩ = some (.slice A0_0 l0_0.length c0_0) := (blk_cell BK425.out 0).trans rfl; have hcz11_1 : w10.cell? ⟨gb425, 1, none⟩ = some (.slice A0_1 l0_1.length c0_1) := (blk_cell BK425.out 1).trans rfl; have hcz11_2 : w10.cell? ⟨gb425, 2, none⟩ = some (.slice A0_2 l0_2.length c0_2) := (blk_cell BK425.out 2).trans rfl; have hcz11_3 : w10.cell? ⟨gb425, 3, none⟩ = some (.int .i64 a0_3) := (blk_cell BK425.out 3).trans rfl; have hfz11_0 := blk_frozen BK425.out 0; have hfz11_1 := blk_frozen BK425.out 1; have hfz11_2 := blk_frozen BK425.out 2; have hfz11_3 := blk_frozen BK425.out 3) | (go_at_call 17; (with_reducible refine (abugidalaw08_Line_cut.calls (fun k_ => k_ < w.heap.size) _ _ l0_0 (fun k_ => k_ < w.heap.size) _ _ l0_1 (fun k_ => k_ < w.heap.size) _ _ l0_2 a0_3 t427 t430 t433 t436 _ ?side1 ?side2 ?side3 A3.out).mono ?_); (case side1 => exact Kd.V_mk HC0_0.out (Kd.F_below (Kd.C_F (Kd.heap_int .i64) HR0_0.out) (by repeat (first | (with_reducible first | exact HB.out | apply below_alloc | apply pw_below_drewN | apply below_drew1 | refine below_set ?_ GE425.out) | exact HB.out)))); (case side2 => exact Kd.V_mk HC0_1.out (Kd.F_below (Kd.C_F (Kd.heap_int .i64) HR0_1.out) (by repeat (first | (with_reducible first | exact HB.out | apply below_alloc | apply pw_below_drewN | apply below_drew1 | refine below_set ?_ GE425.out) | exact HB.out)))); (case side3 => exact Kd.V_mk HC0_2.out (Kd.F_below (Kd.C_F Kd.heap_bool HR0_2.out) (by repeat (first | (with_reducible first | exact HB.out | apply below_alloc | apply pw_below_drewN | apply below_drew1 | refine below_set ?_ GE425.out) | exact HB.out)))); rintro e w12 ⟨v428, v431, v434, rfl, ho0, ho1, ho2, hb⟩; have n0_ := Aside0.mk (Kd.V_lower (Kd.V_mono (ok' := fun k_ => k_ ≠ gb425) ho0 (fun k_ hk_ => Or.elim hk_ (fun hs_ => Or.elim hs_ (fun hs_ => fun e_ => Nat.not_le.2 hs_ (by rw [e_]; exact GW425.out)) (fun hs_ => Or.elim hs_ (fun hs_ => fun e_ => Nat.not_le.2 hs_ (by rw [e_]; exact GW425.out)) (fun hs_ => fun e_ => Nat.not_le.2 hs_ (by rw [e_]; exact GW425.out)))) (fun hn_ => (Kd.freshB (g := gb425) (o := .cells #[.slice A0_0 l0_0.length c0_0, .slice A0_1 l0_1.length c0_1, .slice A0_2 l0_2.length c0_2, .int .i64 a0_3] 37 (0, 0)) (by (with_reducible repeat (first | refine blk_drewN ?_ _ | refine blk_drew ?_ | refine blk_alloc ?_ _)); exact BK425.out) k_ hn_)))) (below_size (by repeat (first | (with_reducible first | exact HB.out | apply below_alloc | apply pw_below_drewN | apply below_drew1 | refine below_set ?_ GE425.out) | exact HB.out)))); have n1_ := Aside0.mk (Kd.V_lower (Kd.V_mono (ok' := fun k_ => k_ ≠ gb425) ho1 (fun k_ hk_ => Or.elim hk_ (fun hs_ => Or.elim hs_ (fun hs_ => fun e_ => Nat.not_le.2 hs_ (by rw [e_]; exact GW425.out)) (fun hs_ => Or.elim hs_ (fun hs_ => fun e_ => Nat.not_le.2 hs_ (by rw [e_]; exact GW425.out)) (fun hs_ => fun e_ => Nat.not_le.2 hs_ (by rw [e_]; exact GW425.out)))) (fun hn_ => (Kd.freshB (g := gb425) (o := .cells #[.slice A0_0 l0_0.length c0_0, .slice A0_1 l0_1.length c0_1, .slice A0_2 l0_2.length c0_2, .int .i64 a0_3] 37 (0, 0)) (by (with_reducible repeat (first | refine blk_drewN ?_ _ | refine blk_drew ?_ | refine blk_alloc ?_ _)); exact BK425.out) k_ hn_)))) (below_size (by repeat (first | (with_reducible first | exact HB.out | apply below_alloc | apply pw_below_drewN | apply below_drew1 | refine below_set ?_ GE425.out) | exact HB.out)))); have n2_ := Aside0.mk (Kd.V_lower (Kd.V_mono (ok' := fun k_ => k_ ≠ gb425) ho2 (fun k_ hk_ => Or.elim hk_ (fun hs_ => Or.elim hs_ (fun hs_ => fun e_ => Nat.not_le.2 hs_ (by rw [e_]; exact GW425.out)) (fun hs_ => Or.elim hs_ (fun hs_ => fun e_ => Nat.not_le.2 hs_ (by rw [e_]; exact GW425.out)) (fun hs_ => fun e_ => Nat.not_le.2 hs_ (by rw [e_]; exact GW425.out)))) (fun hn_ => (Kd.freshB (g := gb425) (o := .cells #[.slice A0_0 l0_0.length c0_0, .slice A0_1 l0_1.length c0_1, .slice A0_2 l0_2.length c0_2, .int .i64 a0_3] 37 (0, 0)) (by (with_reducible repeat (first | refine blk_drewN ?_ _ | refine blk_drew ?_ | refine blk_alloc ?_ _)); exact BK425.out) k_ hn_)))) (below_size (by repeat (first | (with_reducible first | exact HB.out | apply below_alloc | apply pw_below_drewN | apply below_drew1 | refine below_set ?_ GE425.out) | exact HB.out)))); have n3_ := Aside0.mk (blk_below (g := gb425) (o := .cells #[.slice A0_0 l0_0.length c0_0, .slice A0_1 l0_1.length c0_1, .slice A0_2 l0_2.length c0_2, .int .i64 a0_3] 37 (0, 0)) (by (with_reducible repeat (first | refine blk_drewN ?_ _ | refine blk_drew ?_ | refine blk_alloc ?_ _)); exact BK425.out) hb); have n4_ := Aside0.mk (below_step (by repeat (first | (with_reducible first | exact HB.out | apply below_alloc | apply pw_below_drewN | apply below_drew1 | refine below_set ?_ GE425.out) | exact HB.out)) hb); clear BK425; clear HB; have HO429 := n0_; have HO432 := n1_; have HO435 := n2_; have BK425 := n3_; have HB := n4_; clear n0_ n1_ n2_ n3_ n4_; (try clear hb); (try clear hb2); (try clear hk); (try clear hi); (try clear ho0); (try clear ho1); (try clear ho2); obtain ⟨Ao13, co13, eo13⟩ := Kd.V_slice HO429.out; subst eo13; have hcz14_0 : w12.cell? ⟨gb425, 0, none⟩ = some (.slice A0_0 l0_0.length c0_0) := (blk_cell BK425.out 0).trans rfl; have hcz14_1 : w12.cell? ⟨gb425, 1, none⟩ = some (.slice A0_1 l0_1.length c0_1) := (blk_cell BK425.out 1).trans rfl; have hcz14_2 : w12.cell? ⟨gb425, 2, none⟩ = some (.slice A0_2 l0_2.length c0_2) := (blk_cell BK425.out 2).trans rfl; have hcz14_3 : w12.cell? ⟨gb425, 3, none⟩ = some (.int .i64 a0_3) := (blk_cell BK425.out 3).trans rfl; have hfz14_0 := blk_frozen BK425.out 0; have hfz14_1 := blk_frozen BK425.out 1; have hfz14_2 := blk_frozen BK425.out 2; have hfz14_3 := blk_frozen BK425.out 3; obtain ⟨Ao15, co15, eo15⟩ := Kd.V_slice HO432.out; subst eo15; obtain ⟨Ao16, co16, eo16⟩ := Kd.V_slice HO435.out; subst eo16) | (go_at_call 18; (with_reducible refine (breaks_Fill.calls k _ _ t427 _ _ t430 _ _ t433 t436 t437 _ ?side1 ?side2 ?side3 ?side4 ?side5 ?side6 A4.out).mono ?_); (case side1 => refine (Kd.V_reads' (e := 3) (base := w.heap.size) (ok := fun k_ => k_ ≠ gb425) (n := t427.length) (c := co13) ?_).2.2; exact (by (with_reducible repeat (first | apply Kd.V_alloc | apply Kd.V_drewN | apply Kd.V_drew)); exact (Kd.V_mono (Kd.V_far (p := ⟨gb425, 3, none⟩) (Kd.V_far (p := ⟨gb425, 2, none⟩) (Kd.V_far (p := ⟨gb425, 1, none⟩) (Kd.V_far (p := ⟨gb425, 0, none⟩) (Kd.V_mono HO429.out (fun k_ hk => (⟨hk, hk⟩ : _ ∧ k_ ≠ gb425))) (fun _ hk => hk.2) (.slice Ao13 t427.length co13)) (fun _ hk => hk.2) (.slice Ao15 t430.length co15)) (fun _ hk => hk.2) (.slice Ao16 t433.length co16)) (fun _ hk => hk.2) (.int .i64 t436)) (fun _ h_ => h_.1)))); (case side2 => exact (Kd.V_reads' HO429.out).2.1); (case side3 => refine (Kd.V_reads' (e := 3) (base := w.heap.size) (ok := fun k_ => k_ ≠ gb425) (n := t430.length) (c := co15) ?_).2.2; exact (by (with_reducible repeat (first | apply Kd.V_alloc | apply Kd.V_drewN | apply Kd.V_drew)); exact (Kd.V_mono (Kd.V_far (p := ⟨gb425, 3, none⟩) (Kd.V_far (p := ⟨gb425, 2, none⟩) (Kd.V_far (p := ⟨gb425, 1, none⟩) (Kd.V_far (p := ⟨gb425, 0, none⟩) (Kd.V_mono HO432.out (fun k_ hk => (⟨hk, hk⟩ : _ ∧ k_ ≠ gb425))) (fun _ hk => hk.2) (.slice Ao13 t427.length co13)) (fun _ hk => hk.2) (.slice Ao15 t430.length co15)) (fun _ hk => hk.2) (.slice Ao16 t433.length co16)) (fun _ hk => hk.2) (.int .i64 t436)) (fun _ h_ => h_.1)))); (case side4 => exact (Kd.V_reads' HO432.out).2.1); (case side5 => refine (Kd.V_reads' (e := 4) (base := w.heap.size) (ok := fun k_ => k_ ≠ gb425) (n := t433.length) (c := co16) ?_).2.2; exact (by (with_reducible repeat (first | apply Kd.V_alloc | apply Kd.V_drewN | apply Kd.V_drew)); exact (Kd.V_mono (Kd.V_far (p := ⟨gb425, 3, none⟩) (Kd.V_far (p := ⟨gb425, 2, none⟩) (Kd.V_far (p := ⟨gb425, 1, none⟩) (Kd.V_far (p := ⟨gb425, 0, none⟩) (Kd.V_mono HO435.out (fun k_ hk => (⟨hk, hk⟩ : _ ∧ k_ ≠ gb425))) (fun _ hk => hk.2) (.slice Ao13 t427.length co13)) (fun _ hk => hk.2) (.slice Ao15 t430.length co15)) (fun _ hk => hk.2) (.slice Ao16 t433.length co16)) (fun _ hk => hk.2) (.int .i64 t436)) (fun _ h_ => h_.1)))); (case side6 => exact (Kd.V_reads' HO435.out).2.1); rintro e w17 ⟨v438, rfl, ho0, hb⟩; have n0_ := Aside0.mk (Kd.V_elder' (by (with_reducible repeat (first | apply Kd.V_alloc | apply Kd.V_drewN | apply Kd.V_drew)); exact (Kd.V_mono (Kd.V_far (p := ⟨gb425, 3, none⟩) (Kd.V_far (p := ⟨gb425, 2, none⟩) (Kd.V_far (p := ⟨gb425, 1, none⟩) (Kd.V_far (p := ⟨gb425, 0, none⟩) (Kd.V_mono HO429.out (fun k_ hk => (⟨hk, hk⟩ : _ ∧ k_ ≠ gb425))) (fun _ hk => hk.2) (.slice Ao13 t427.length co13)) (fun _ hk => hk.2) (.slice Ao15 t430.length co15)) (fun _ hk => hk.2) (.slice Ao16 t433.length co16)) (fun _ hk => hk.2) (.int .i64 t436)) (fun _ h_ => h_.1))) (Kd.R_base ho0) hb); have n1_ := Aside0.mk (Kd.V_elder' (by (with_reducible repeat (first | apply Kd.V_alloc | apply Kd.V_drewN | apply Kd.V_drew)); exact (Kd.V_mono (Kd.V_far (p := ⟨gb425, 3, none⟩) (Kd.V_far (p := ⟨gb425, 2, none⟩) (Kd.V_far (p := ⟨gb425, 1, none⟩) (Kd.V_far (p := ⟨gb425, 0, none⟩) (Kd.V_mono HO432.out (fun k_ hk => (⟨hk, hk⟩ : _ ∧ k_ ≠ gb425))) (fun _ hk => hk.2) (.slice Ao13 t427.length co13)) (fun _ hk => hk.2) (.slice Ao15 t430.length co15)) (fun _ hk => hk.2) (.slice Ao16 t433.length co16)) (fun _ hk => hk.2) (.int .i64 t436)) (fun _ h_ => h_.1))) (Kd.R_base ho0) hb); have n2_ := Aside0.mk (Kd.V_elder' (by (with_reducible repeat (first | apply Kd.V_alloc | apply Kd.V_drewN | apply Kd.V_drew)); exact (Kd.V_mono (Kd.V_far (p := ⟨gb425, 3, none⟩) (Kd.V_far (p := ⟨gb425, 2, none⟩) (Kd.V_far (p := ⟨gb425, 1, none⟩) (Kd.V_far (p := ⟨gb425, 0, none⟩) (Kd.V_mono HO435.out (fun k_ hk => (⟨hk, hk⟩ : _ ∧ k_ ≠ gb425))) (fun _ hk => hk.2) (.slice Ao13 t427.length co13)) (fun _ hk => hk.2) (.slice Ao15 t430.length co15)) (fun _ hk => hk.2) (.slice Ao16 t433.length co16)) (fun _ hk => hk.2) (.int .i64 t436)) (fun _ h_ => h_.1))) (Kd.R_base ho0) hb); have n3_ := Aside0.mk (Kd.R_lower ho0 (below_size (by repeat (first | (with_reducible first | exact HB.out | apply below_alloc | apply pw_below_drewN | apply below_drew1 | refine below_set ?_ GE425.out) | exact HB.out)))); have n4_ := Aside0.mk (blk_below (g := gb425) (o := .cells #[.slice Ao13 t427.length co13, .slice Ao15 t430.length co15, .slice Ao16 t433.length co16, .int .i64 t436] 37 (0, 0)) (by (with_reducible repeat (first | refine blk_drewN ?_ _ | refine blk_drew ?_ | refine blk_alloc ?_ _)); refine blk_put (cs := #[.slice Ao13 t427.length co13, .slice Ao15 t430.length co15, .slice Ao16 t433.length co16, .int .i64 a0_3]) ?_ 3 _ rfl; (with_reducible repeat (first | refine blk_drewN ?_ _ | refine blk_drew ?_ | refine blk_alloc ?_ _)); refine blk_put (cs := #[.slice Ao13 t427.length co13, .slice Ao15 t430.length co15, .slice A0_2 l0_2.length c0_2, .int .i64 a0_3]) ?_ 2 _ rfl; (with_reducible repeat (first | refine blk_drewN ?_ _ | refine blk_drew ?_ | refine blk_alloc ?_ _)); refine blk_put (cs := #[.slice Ao13 t427.length co13, .slice A0_1 l0_1.length c0_1, .slice A0_2 l0_2.length c0_2, .int .i64 a0_3]) ?_ 1 _ rfl; (with_reducible repeat (first | refine blk_drewN ?_ _ | refine blk_drew ?_ | refine blk_alloc ?_ _)); refine blk_put (cs := #[.slice A0_0 l0_0.length c0_0, .slice A0_1 l0_1.length c0_1, .slice A0_2 l0_2.length c0_2, .int .i64 a0_3]) ?_ 0 _ rfl; (with_reducible repeat (first | refine blk_drewN ?_ _ | refine blk_drew ?_ | refine blk_alloc ?_ _)); exact BK425.out) hb); have n5_ := Aside0.mk (below_step (by repeat (first | (with_reducible first | exact HB.out | apply below_alloc | apply pw_below_drewN | apply below_drew1 | refine below_set ?_ GE425.out) | exact HB.out)) hb); clear HO429; clear HO432; clear HO435; clear BK425; clear HB; have HO429 := n0_; have HO432 := n1_; have HO435 := n2_; have HO439 := n3_; have BK425 := n4_; have HB := n5_; clear n0_ n1_ n2_ n3_ n4_ n5_; (try clear hb); (try clear hb2); (try clear hk); (try clear hi); (try clear ho0); have hcz18_0 : w17.cell? ⟨gb425, 0, none⟩ = some (.slice Ao13 t427.length co13) := (blk_cell BK425.out 0).trans rfl; have hcz18_1 : w17.cell? ⟨gb425, 1, none⟩ = some (.slice Ao15 t430.length co15) := (blk_cell BK425.out 1).trans rfl; have hcz18_2 : w17.cell? ⟨gb425, 2, none⟩ = some (.slice Ao16 t433.length co16) := (blk_cell BK425.out 2).trans rfl; have hcz18_3 : w17.cell? ⟨gb425, 3, none⟩ = some (.int .i64 t436) := (blk_cell BK425.out 3).trans rfl; have hfz18_0 := blk_frozen BK425.out 0; have hfz18_1 := blk_frozen BK425.out 1; have hfz18_2 := blk_frozen BK425.out 2; have hfz18_3 := blk_frozen BK425.out 3) | (go_at_call 20; (with_reducible refine (abugidaref08_Elements.calls k _ _ t427 _ _ t430 _ _ t433 t440 _ ?side1 ?side2 ?side3 ?side4 ?side5 ?side6 A5.out).mono ?_); (case side1 => repeat (first | exact (Kd.V_reads' HO429.out).2.2 | (with_reducible refine Kd.C_alloc ?_ _) | (with_reducible refine Kd.C_drewN ?_ _) | (with_reducible refine Kd.C_drew ?_))); (case side2 => exact (Kd.V_reads' HO429.out).2.1); (case side3 => repeat (first | exact (Kd.V_reads' HO432.out).2.2 | (with_reducible refine Kd.C_alloc ?_ _) | (with_reducible refine Kd.C_drewN ?_ _) | (with_reducible refine Kd.C_drew ?_))); (case side4 => exact (Kd.V_reads' HO432.out).2.1); (case side5 => repeat (first | exact (Kd.V_reads' HO435.out).2.2 | (with_reducible refine Kd.C_alloc ?_ _) | (with_reducible refine Kd.C_drewN ?_ _) | (with_reducible refine Kd.C_drew ?_))); (case side6 => exact (Kd.V_reads' HO435.out).2.1); rintro e w19 ⟨v441, rfl, ho0, hb⟩; have n0_ := Aside0.mk (Kd.V_elder' (by (with_reducible repeat (first | apply Kd.V_alloc | apply Kd.V_drewN | apply Kd.V_drew)); exact HO429.out) (Kd.R_base ho0) hb); have n1_ := Aside0.mk (Kd.V_elder' (by (with_reducible repeat (first | apply Kd.V_alloc | apply Kd.V_drewN | apply Kd.V_drew)); exact HO432.out) (Kd.R_base ho0) hb); have n2_ := Aside0.mk (Kd.V_elder' (by (with_reducible repeat (first | apply Kd.V_alloc | apply Kd.V_drewN | apply Kd.V_drew)); exact HO435.out) (Kd.R_base ho0) hb); have n3_ := Aside0.mk (Kd.R_below (by (with_reducible repeat (first | apply Kd.R_alloc | apply Kd.R_drewN | apply Kd.R_drew)); exact HO439.out) hb); have n4_ := Aside0.mk (Kd.R_lower ho0 (below_size (by repeat (first | (with_reducible first | exact HB.out | apply below_alloc | apply pw_below_drewN | apply below_drew1 | refine below_set ?_ GE425.out) | exact HB.out)))); have n5_ := Aside0.mk (blk_below (g := gb425) (o := .cells #[.slice Ao13 t427.length co13, .slice Ao15 t430.length co15, .slice Ao16 t433.length co16, .int .i64 t436] 37 (0, 0)) (by (with_reducible repeat (first | refine blk_drewN ?_ _ | refine blk_drew ?_ | refine blk_alloc ?_ _)); exact BK425.out) hb); have n6_ := Aside0.mk (below_step (by repeat (first | (with_reducible first | exact HB.out | apply below_alloc | apply pw_below_drewN | apply below_drew1 | refine below_set ?_ GE425.out) | exact HB.out)) hb); clear HO429; clear HO432; clear HO435; clear HO439; clear BK425; clear HB; have HO429 := n0_; have HO432 := n1_; have HO435 := n2_; have HO439 := n3_; have HO442 := n4_; have BK425 := n5_; have HB := n6_; clear n0_ n1_ n2_ n3_ n4_ n5_ n6_; (try clear hb); (try clear hb2); (try clear hk); (try clear hi); (try clear ho0); have hcz20_0 : w19.cell? ⟨gb425, 0, none⟩ = some (.slice Ao13 t427.length co13) := (blk_cell BK425.out 0).trans rfl; have hcz20_1 : w19.cell? ⟨gb425, 1, none⟩ = some (.slice Ao15 t430.length co15) := (blk_cell BK425.out 1).trans rfl; have hcz20_2 : w19.cell? ⟨gb425, 2, none⟩ = some (.slice Ao16 t433.length co16) := (blk_cell BK425.out 2).trans rfl; have hcz20_3 : w19.cell? ⟨gb425, 3, none⟩ = some (.int .i64 t436) := (blk_cell BK425.out 3).trans rfl; have hfz20_0 := blk_frozen BK425.out 0; have hfz20_1 := blk_frozen BK425.out 1; have hfz20_2 := blk_frozen BK425.out 2; have hfz20_3 := blk_frozen BK425.out 3; obtain ⟨Ao21, co21, eo21⟩ := Kd.R_slice HO439.out; subst eo21; obtain ⟨Ao22, co22, eo22⟩ := Kd.R_slice HO442.out; subst eo22)))
  go_loopg [7, 8] k (fun kq v7 v8 w' => ∃ (x7_1 : Int) (x8_1 : Int), v7 = .int .i64 x7_1 ∧ v8 = .int .i64 x8_1 ∧ Aside0 (abugidalaw08_BreaksGreedy.l0 kq t426 t437 t440 ji7 x7_1 x8_1 = some r) ∧ Aside0 (kq ≤ k) ∧ Aside0 (Kd.R (Kd.int .i64) 3 w' w.heap.size (fun _ => True) (.slice Ao21 t437.length co21) t437) ∧ Aside0 (Kd.R k44 44 w' w.heap.size (fun _ => True) (.slice Ao22 t440.length co22) t440) ∧ Aside0 (Kd.V (Kd.int .i64) 3 w' w.heap.size (fun k_ => some k_ ≠ ((.slice Ao21 t437.length co21) : Value).ownBlock ∧ some k_ ≠ ((.slice Ao22 t440.length co22) : Value).ownBlock ∧ k_ ≠ gb425) (.slice Ao13 t427.length co13) t427) ∧ Aside0 (Kd.V (Kd.int .i64) 3 w' w.heap.size (fun k_ => some k_ ≠ ((.slice Ao21 t437.length co21) : Value).ownBlock ∧ some k_ ≠ ((.slice Ao22 t440.length co22) : Value).ownBlock ∧ k_ ≠ gb425) (.slice Ao15 t430.length co15) t430) ∧ Aside0 (Kd.V Kd.bool 4 w' w.heap.size (fun k_ => some k_ ≠ ((.slice Ao21 t437.length co21) : Value).ownBlock ∧ some k_ ≠ ((.slice Ao22 t440.length co22) : Value).ownBlock ∧ k_ ≠ gb425) (.slice Ao16 t433.length co16) t433) ∧ Aside0 (w'.heap[gb425]? = some (.cells #[(.slice Ao13 t427.length co13), (.slice Ao15 t430.length co15), (.slice Ao16 t433.length co16), .int .i64 t436] 37 (0, 0))) ∧ Aside0 (Below w.heap.size w w'))
  case atStart => exact ⟨(0), (0), (by first | rfl | (simp; done) | (simp [*]; done)), (by first | rfl | (simp; done) | (simp [*]; done)), H', ⟨Nat.le_refl _⟩, ⟨by (with_reducible repeat (first | apply Kd.R_alloc | apply Kd.R_drewN | apply Kd.R_drew)); exact HO439.out⟩, ⟨by (with_reducible repeat (first | apply Kd.R_alloc | apply Kd.R_drewN | apply Kd.R_drew)); exact HO442.out⟩, ⟨by (with_reducible repeat (first | apply Kd.V_alloc | apply Kd.V_drewN | apply Kd.V_drew)); exact Kd.V_mono HO429.out (fun _ hk => ⟨hk.1.2, ⟨hk.2, hk.1.1⟩⟩)⟩, ⟨by (with_reducible repeat (first | apply Kd.V_alloc | apply Kd.V_drewN | apply Kd.V_drew)); exact Kd.V_mono HO432.out (fun _ hk => ⟨hk.1.2, ⟨hk.2, hk.1.1⟩⟩)⟩, ⟨by (with_reducible repeat (first | apply Kd.V_alloc | apply Kd.V_drewN | apply Kd.V_drew)); exact Kd.V_mono HO435.out (fun _ hk => ⟨hk.1.2, ⟨hk.2, hk.1.1⟩⟩)⟩, ⟨by (with_reducible repeat (first | refine blk_drewN ?_ _ | refine blk_drew ?_ | refine blk_alloc ?_ _)); exact BK425.out⟩, ⟨by repeat (first | (with_reducible first | exact HB.out | apply below_alloc | apply pw_below_drewN | apply below_drew1 | refine below_set ?_ GE425.out) | exact HB.out)⟩⟩
  case round =>
   clear H'
   try clear p2
   try clear c6
   try clear c8
   try clear c8b0
   try clear c8b1
   try clear c8b2
   try clear hcz11_0
   try clear hcz11_1
   try clear hcz11_2
   try clear hcz11_3
   try clear hcz14_0
   try clear hcz14_1
   try clear hcz14_2
   try clear hcz14_3
   try clear hcz18_0
   try clear hcz18_1
   try clear hcz18_2
   try clear hcz18_3
   try clear hcz20_0
   try clear hcz20_1
   try clear hcz20_2
   try clear hcz20_3
   try clear hfz11_0
   try clear hfz11_1
   try clear hfz11_2
   try clear hfz11_3
   try clear hfz14_0
   try clear hfz14_1
   try clear hfz14_2
   try clear hfz14_3
   try clear hfz18_0
   try clear hfz18_1
   try clear hfz18_2
   try clear hfz18_3
   try clear hfz20_0
   try clear hfz20_1
   try clear hfz20_2
   try clear hfz20_3
   obtain ⟨x7_1, x8_1, rfl, rfl, HA, HK1, HO_4, HO_5, HO_426000, HO_426001, HO_426002, BK425, HB⟩ := hrel
   cases gk with
   | zero => exact absurd HA.out (by simp [abugidalaw08_BreaksGreedy.l0])
   | succ k1 =>
    have H := HA.out
    clear HA
    simp only [abugidalaw08_BreaksGreedy.l0] at H
    by_cases c23 : x8_1 < (t437.length : Int)
    ·
     rw [if_pos c23] at H
     have c23b0 : decide (x8_1 < (t437.length : Int)) = true := decide_eq_true c23
     clear c23
     have HC24 := Aside0.mk H
     clear H
     go_upto_region 12 with (fail)
     repeat (go_quiet (fail); go_upto_region 12 with (fail))
     go_cut [81] (fun v81 wc => ∃ (kq : Nat) (x81_23 : Bool), v81 = .bool x81_23 ∧ Aside0 (abugidalaw08_BreaksGreedy.j1 kq t426 t437 t440 ji7 x7_1 x8_1 x81_23 = some r) ∧ Aside0 (kq ≤ k1) ∧ Aside0 (Kd.R (Kd.int .i64) 3 wc w.heap.size (fun _ => True) (.slice Ao21 t437.length co21) t437) ∧ Aside0 (Kd.R k44 44 wc w.heap.size (fun _ => True) (.slice Ao22 t440.length co22) t440) ∧ Aside0 (Kd.V (Kd.int .i64) 3 wc w.heap.size (fun k_ => some k_ ≠ ((.slice Ao21 t437.length co21) : Value).ownBlock ∧ some k_ ≠ ((.slice Ao22 t440.length co22) : Value).ownBlock ∧ k_ ≠ gb425) (.slice Ao13 t427.length co13) t427) ∧ Aside0 (Kd.V (Kd.int .i64) 3 wc w.heap.size (fun k_ => some k_ ≠ ((.slice Ao21 t437.length co21) : Value).ownBlock ∧ some k_ ≠ ((.slice Ao22 t440.length co22) : Value).ownBlock ∧ k_ ≠ gb425) (.slice Ao15 t430.length co15) t430) ∧ Aside0 (Kd.V Kd.bool 4 wc w.heap.size (fun k_ => some k_ ≠ ((.slice Ao21 t437.length co21) : Value).ownBlock ∧ some k_ ≠ ((.slice Ao22 t440.length co22) : Value).ownBlock ∧ k_ ≠ gb425) (.slice Ao16 t433.length co16) t433) ∧ Aside0 (wc.heap[gb425]? = some (.cells #[(.slice Ao13 t427.length co13), (.slice Ao15 t430.length co15), (.slice Ao16 t433.length co16), .int .i64 t436] 37 (0, 0))) ∧ Aside0 (Below w.heap.size w wc))
     case first =>
      as_aux_lemma =>
       have H := HC24.out
       clear HC24
       by_cases c25 : x8_1 = 0
       ·
        rw [if_pos c25] at H
        have c25b0 : (x8_1 == 0) = true := beq_iff_eq.mpr c25
        have c25b1 : (x8_1 != 0) = false := bne_eq_false_iff_eq.mpr c25
        clear c25
        (first | rw [c25b0] | (simp only [i64_w, i32_w]; rw [c25b0]) | skip)
        by_cases c26 : 0 < (t437.length : Int)
        ·
         rw [if_pos c26] at H
         have c26b0 : decide (0 < (t437.length : Int)) = true := decide_eq_true c26
         have c26b1 : decide (0 < t437.length) = true := decide_eq_true (by omega)
         clear c26
         by_cases c27 : (rd t437 0) = 0
         ·
          rw [if_pos c27] at H
          have c27b0 : ((rd t437 0) == 0) = true := beq_iff_eq.mpr c27
          have c27b1 : ((rd t437 0) != 0) = false := bne_eq_false_iff_eq.mpr c27
          clear c27
          by_cases c28 : x8_1 > 0
          ·
           rw [if_pos c28] at H
           have c28b0 : decide (0 < x8_1) = true := decide_eq_true c28
           clear c28
           by_cases c29 : 0 ≤ x8_1
           ·
            rw [if_pos c29] at H
            have c29b0 : decide (0 ≤ x8_1) = true := decide_eq_true c29
            clear c29
            obtain ⟨ji30, hji30⟩ : ∃ j_ : Int, (wrap64 (x8_1 - 1)) = j_ := ⟨_, rfl⟩
            replace H : (if 0 ≤ (ji30) then (if (ji30) < (t437.length : Int) then (if (rd t437 x8_1) < (rd t437 (ji30)) then (abugidalaw08_BreaksGreedy.j1 k1 t426 t437 t440 ji7 x7_1 x8_1 true) else (abugidalaw08_BreaksGreedy.j1 k1 t426 t437 t440 ji7 x7_1 x8_1 (decide ((rd t437 x8_1) > (wrap64 ((rd t437 (ji30)) + 1)))))) else (none)) else (none)) = some r := by first | (rw [hji30] at H; exact H) | (simp only [hji30] at H ⊢; exact H)
            have hji30w : (IntKind.i64.wrap (x8_1 - 1)) = ji30 := (i64_w _).trans hji30
            by_cases c31 : 0 ≤ (ji30)
            ·
             rw [if_pos c31] at H
             have c31b0 : decide (0 ≤ (ji30)) = true := decide_eq_true c31
             clear c31
             by_cases c32 : (ji30) < (t437.length : Int)
             ·
              rw [if_pos c32] at H
              have c32b0 : decide ((ji30) < (t437.length : Int)) = true := decide_eq_true c32
              clear c32
              by_cases c33 : (rd t437 x8_1) < (rd t437 (ji30))
              ·
               rw [if_pos c33] at H
               have c33b0 : decide ((rd t437 x8_1) < (rd t437 (ji30))) = true := decide_eq_true c33
               clear c33
               have H' := Aside0.mk H
               clear H
               have p443 : 0 ≤ (0 : Int) := (by omega)
               have q443 : 0 < (t437.length : Int) := of_decide_eq_true (by first | (with_reducible assumption) | assumption)
               obtain ⟨ad443, e443, hx443_0⟩ := Kd.at_int (Kd.R_reads' HO_4.out).2.2 0 p443 q443
               cases e443
               have qi443 : (0 < t437.length) = True := eq_true (by omega)
               (try rw [show ((0 : Int)).toNat = 0 from rfl] at hx443_0)
               (try rw [Addr.add_zero'] at hx443_0)
               replace p443 := eq_true p443
               replace q443 := eq_true q443
               have p444 : 0 ≤ (x8_1 : Int) := of_decide_eq_true (by first | (with_reducible assumption) | assumption)
               have q444 : x8_1 < (t437.length : Int) := of_decide_eq_true (by first | (with_reducible assumption) | assumption)
               obtain ⟨ad444, e444, hx444_0⟩ := Kd.at_int (Kd.R_reads' HO_4.out).2.2 x8_1 p444 q444
               obtain rfl : ad443 = ad444 := (by injection e444)
               replace p444 := eq_true p444
               replace q444 := eq_true q444
               have p445 : 0 ≤ ((ji30) : Int) := of_decide_eq_true (by first | (with_reducible assumption) | assumption)
               have q445 : (ji30) < (t437.length : Int) := of_decide_eq_true (by first | (with_reducible assumption) | assumption)
               obtain ⟨ad445, e445, hx445_0⟩ := Kd.at_int (Kd.R_reads' HO_4.out).2.2 (ji30) p445 q445
               obtain rfl : ad443 = ad445 := (by injection e445)
               replace p445 := eq_true p445
               replace q445 := eq_true q445
               go_wp2
               repeat (go_quiet (fail); try go_wp2)
               go_meet
               case rel => exact ⟨_, (true), (by first | rfl | (simp; done) | (simp [*]; done)), H', ⟨by have := HK1.out; first | omega | exact Nat.le_refl _⟩, ⟨by (with_reducible repeat (first | apply Kd.R_alloc | apply Kd.R_drewN | apply Kd.R_drew)); exact HO_4.out⟩, ⟨by (with_reducible repeat (first | apply Kd.R_alloc | apply Kd.R_drewN | apply Kd.R_drew)); exact HO_5.out⟩, ⟨by (with_reducible repeat (first | apply Kd.V_alloc | apply Kd.V_drewN | apply Kd.V_drew)); exact HO_426000.out⟩, ⟨by (with_reducible repeat (first | apply Kd.V_alloc | apply Kd.V_drewN | apply Kd.V_drew)); exact HO_426001.out⟩, ⟨by (with_reducible repeat (first | apply Kd.V_alloc | apply Kd.V_drewN | apply Kd.V_drew)); exact HO_426002.out⟩, ⟨by (with_reducible repeat (first | refine blk_drewN ?_ _ | refine blk_drew ?_ | refine blk_alloc ?_ _)); exact BK425.out⟩, ⟨by repeat (first | (with_reducible first | exact HB.out | apply below_alloc | apply pw_below_drewN | apply below_drew1 | refine below_set ?_ GE425.out) | exact HB.out)⟩⟩
              ·
               rw [if_neg c33] at H
               have c33b0 : decide ((rd t437 x8_1) < (rd t437 (ji30))) = false := decide_eq_false c33
               clear c33
               have H' := Aside0.mk H
               clear H
               have p443 : 0 ≤ (0 : Int) := (by omega)
               have q443 : 0 < (t437.length : Int) := of_decide_eq_true (by first | (with_reducible assumption) | assumption)
               obtain ⟨ad443, e443, hx443_0⟩ := Kd.at_int (Kd.R_reads' HO_4.out).2.2 0 p443 q443
               cases e443
               have qi443 : (0 < t437.length) = True := eq_true (by omega)
               (try rw [show ((0 : Int)).toNat = 0 from rfl] at hx443_0)
               (try rw [Addr.add_zero'] at hx443_0)
               replace p443 := eq_true p443
               replace q443 := eq_true q443
               have p444 : 0 ≤ (x8_1 : Int) := of_decide_eq_true (by first | (with_reducible assumption) | assumption)
               have q444 : x8_1 < (t437.length : Int) := of_decide_eq_true (by first | (with_reducible assumption) | assumption)
               obtain ⟨ad444, e444, hx444_0⟩ := Kd.at_int (Kd.R_reads' HO_4.out).2.2 x8_1 p444 q444
               obtain rfl : ad443 = ad444 := (by injection e444)
               replace p444 := eq_true p444
               replace q444 := eq_true q444
               have p445 : 0 ≤ ((ji30) : Int) := of_decide_eq_true (by first | (with_reducible assumption) | assumption)
               have q445 : (ji30) < (t437.length : Int) := of_decide_eq_true (by first | (with_reducible assumption) | assumption)
               obtain ⟨ad445, e445, hx445_0⟩ := Kd.at_int (Kd.R_reads' HO_4.out).2.2 (ji30) p445 q445
               obtain rfl : ad443 = ad445 := (by injection e445)
               replace p445 := eq_true p445
               replace q445 := eq_true q445
               have p446 : 0 ≤ (x8_1 : Int) := of_decide_eq_true (by first | (with_reducible assumption) | assumption)
               have q446 : x8_1 < (t437.length : Int) := of_decide_eq_true (by first | (with_reducible assumption) | assumption)
               obtain ⟨ad446, e446, hx446_0⟩ := Kd.at_int (Kd.R_reads' HO_4.out).2.2 x8_1 p446 q446
               obtain rfl : ad443 = ad446 := (by injection e446)
               replace p446 := eq_true p446
               replace q446 := eq_true q446
               have p447 : 0 ≤ ((ji30) : Int) := of_decide_eq_true (by first | (with_reducible assumption) | assumption)
               have q447 : (ji30) < (t437.length : Int) := of_decide_eq_true (by first | (with_reducible assumption) | assumption)
               obtain ⟨ad447, e447, hx447_0⟩ := Kd.at_int (Kd.R_reads' HO_4.out).2.2 (ji30) p447 q447
               obtain rfl : ad443 = ad447 := (by injection e447)
               replace p447 := eq_true p447
               replace q447 := eq_true q447
               go_wp2
               repeat (go_quiet (fail); try go_wp2)
               go_meet
               case rel => exact ⟨_, (decide ((rd t437 x8_1) > (wrap64 ((rd t437 (ji30)) + 1)))), (by first | rfl | (simp; done) | (simp only [← hji30] <;> (first | rfl | simp)) | (simp [*]; done)), H', ⟨by have := HK1.out; first | omega | exact Nat.le_refl _⟩, ⟨by (with_reducible repeat (first | apply Kd.R_alloc | apply Kd.R_drewN | apply Kd.R_drew)); exact HO_4.out⟩, ⟨by (with_reducible repeat (first | apply Kd.R_alloc | apply Kd.R_drewN | apply Kd.R_drew)); exact HO_5.out⟩, ⟨by (with_reducible repeat (first | apply Kd.V_alloc | apply Kd.V_drewN | apply Kd.V_drew)); exact HO_426000.out⟩, ⟨by (with_reducible repeat (first | apply Kd.V_alloc | apply Kd.V_drewN | apply Kd.V_drew)); exact HO_426001.out⟩, ⟨by (with_reducible repeat (first | apply Kd.V_alloc | apply Kd.V_drewN | apply Kd.V_drew)); exact HO_426002.out⟩, ⟨by (with_reducible repeat (first | refine blk_drewN ?_ _ | refine blk_drew ?_ | refine blk_alloc ?_ _)); exact BK425.out⟩, ⟨by repeat (first | (with_reducible first | exact HB.out | apply below_alloc | apply pw_below_drewN | apply below_drew1 | refine below_set ?_ GE425.out) | exact HB.out)⟩⟩
             ·
              rw [if_neg c32] at H
              exact absurd H (by simp)
            ·
             rw [if_neg c31] at H
             exact absurd H (by simp)
           ·
            rw [if_neg c29] at H
            exact absurd H (by simp)
          ·
           rw [if_neg c28] at H
           have c28b0 : decide (0 < x8_1) = false := decide_eq_false c28
           clear c28
           have H' := Aside0.mk H
           clear H
           have p443 : 0 ≤ (0 : Int) := (by omega)
           have q443 : 0 < (t437.length : Int) := of_decide_eq_true (by first | (with_reducible assumption) | assumption)
           obtain ⟨ad443, e443, hx443_0⟩ := Kd.at_int (Kd.R_reads' HO_4.out).2.2 0 p443 q443
           cases e443
           have qi443 : (0 < t437.length) = True := eq_true (by omega)
           (try rw [show ((0 : Int)).toNat = 0 from rfl] at hx443_0)
           (try rw [Addr.add_zero'] at hx443_0)
           replace p443 := eq_true p443
           replace q443 := eq_true q443
           go_wp2
           repeat (go_quiet (fail); try go_wp2)
           go_meet
           case rel => exact ⟨_, (false), (by first | rfl | (simp; done) | (simp [*]; done)), H', ⟨by have := HK1.out; first | omega | exact Nat.le_refl _⟩, ⟨by (with_reducible repeat (first | apply Kd.R_alloc | apply Kd.R_drewN | apply Kd.R_drew)); exact HO_4.out⟩, ⟨by (with_reducible repeat (first | apply Kd.R_alloc | apply Kd.R_drewN | apply Kd.R_drew)); exact HO_5.out⟩, ⟨by (with_reducible repeat (first | apply Kd.V_alloc | apply Kd.V_drewN | apply Kd.V_drew)); exact HO_426000.out⟩, ⟨by (with_reducible repeat (first | apply Kd.V_alloc | apply Kd.V_drewN | apply Kd.V_drew)); exact HO_426001.out⟩, ⟨by (with_reducible repeat (first | apply Kd.V_alloc | apply Kd.V_drewN | apply Kd.V_drew)); exact HO_426002.out⟩, ⟨by (with_reducible repeat (first | refine blk_drewN ?_ _ | refine blk_drew ?_ | refine blk_alloc ?_ _)); exact BK425.out⟩, ⟨by repeat (first | (with_reducible first | exact HB.out | apply below_alloc | apply pw_below_drewN | apply below_drew1 | refine below_set ?_ GE425.out) | exact HB.out)⟩⟩
         ·
          rw [if_neg c27] at H
          have c27b0 : ((rd t437 0) == 0) = false := beq_eq_false_iff_ne.mpr c27
          have c27b1 : ((rd t437 0) != 0) = true := bne_iff_ne.mpr c27
          have H' := Aside0.mk H
          clear H
          have p443 : 0 ≤ (0 : Int) := (by omega)
          have q443 : 0 < (t437.length : Int) := of_decide_eq_true (by first | (with_reducible assumption) | assumption)
          obtain ⟨ad443, e443, hx443_0⟩ := Kd.at_int (Kd.R_reads' HO_4.out).2.2 0 p443 q443
          cases e443
          have qi443 : (0 < t437.length) = True := eq_true (by omega)
          (try rw [show ((0 : Int)).toNat = 0 from rfl] at hx443_0)
          (try rw [Addr.add_zero'] at hx443_0)
          replace p443 := eq_true p443
          replace q443 := eq_true q443
          go_wp2
          repeat (go_quiet (fail); try go_wp2)
          go_meet
          case rel => exact ⟨_, (true), (by first | rfl | (simp; done) | (simp [*]; done)), H', ⟨by have := HK1.out; first | omega | exact Nat.le_refl _⟩, ⟨by (with_reducible repeat (first | apply Kd.R_alloc | apply Kd.R_drewN | apply Kd.R_drew)); exact HO_4.out⟩, ⟨by (with_reducible repeat (first | apply Kd.R_alloc | apply Kd.R_drewN | apply Kd.R_drew)); exact HO_5.out⟩, ⟨by (with_reducible repeat (first | apply Kd.V_alloc | apply Kd.V_drewN | apply Kd.V_drew)); exact HO_426000.out⟩, ⟨by (with_reducible repeat (first | apply Kd.V_alloc | apply Kd.V_drewN | apply Kd.V_drew)); exact HO_426001.out⟩, ⟨by (with_reducible repeat (first | apply Kd.V_alloc | apply Kd.V_drewN | apply Kd.V_drew)); exact HO_426002.out⟩, ⟨by (with_reducible repeat (first | refine blk_drewN ?_ _ | refine blk_drew ?_ | refine blk_alloc ?_ _)); exact BK425.out⟩, ⟨by repeat (first | (with_reducible first | exact HB.out | apply below_alloc | apply pw_below_drewN | apply below_drew1 | refine below_set ?_ GE425.out) | exact HB.out)⟩⟩
        ·
         rw [if_neg c26] at H
         exact absurd H (by simp)
       ·
        rw [if_neg c25] at H
        have c25b0 : (x8_1 == 0) = false := beq_eq_false_iff_ne.mpr c25
        have c25b1 : (x8_1 != 0) = true := bne_iff_ne.mpr c25
        (first | rw [c25b0] | (simp only [i64_w, i32_w]; rw [c25b0]) | skip)
        by_cases c34 : x8_1 > 0
        ·
         rw [if_pos c34] at H
         have c34b0 : decide (0 < x8_1) = true := decide_eq_true c34
         clear c34
         by_cases c35 : 0 ≤ x8_1
         ·
          rw [if_pos c35] at H
          have c35b0 : decide (0 ≤ x8_1) = true := decide_eq_true c35
          clear c35
          obtain ⟨ji36, hji36⟩ : ∃ j_ : Int, (wrap64 (x8_1 - 1)) = j_ := ⟨_, rfl⟩
          replace H : (if 0 ≤ (ji36) then (if (ji36) < (t437.length : Int) then (if (rd t437 x8_1) < (rd t437 (ji36)) then (abugidalaw08_BreaksGreedy.j1 k1 t426 t437 t440 ji7 x7_1 x8_1 true) else (abugidalaw08_BreaksGreedy.j1 k1 t426 t437 t440 ji7 x7_1 x8_1 (decide ((rd t437 x8_1) > (wrap64 ((rd t437 (ji36)) + 1)))))) else (none)) else (none)) = some r := by first | (rw [hji36] at H; exact H) | (simp only [hji36] at H ⊢; exact H)
          have hji36w : (IntKind.i64.wrap (x8_1 - 1)) = ji36 := (i64_w _).trans hji36
          by_cases c37 : 0 ≤ (ji36)
          ·
           rw [if_pos c37] at H
           have c37b0 : decide (0 ≤ (ji36)) = true := decide_eq_true c37
           clear c37
           by_cases c38 : (ji36) < (t437.length : Int)
           ·
            rw [if_pos c38] at H
            have c38b0 : decide ((ji36) < (t437.length : Int)) = true := decide_eq_true c38
            clear c38
            by_cases c39 : (rd t437 x8_1) < (rd t437 (ji36))
            ·
             rw [if_pos c39] at H
             have c39b0 : decide ((rd t437 x8_1) < (rd t437 (ji36))) = true := decide_eq_true c39
             clear c39
             have H' := Aside0.mk H
             clear H
             have p448 : 0 ≤ (x8_1 : Int) := of_decide_eq_true (by first | (with_reducible assumption) | assumption)
             have q448 : x8_1 < (t437.length : Int) := of_decide_eq_true (by first | (with_reducible assumption) | assumption)
             obtain ⟨ad448, e448, hx448_0⟩ := Kd.at_int (Kd.R_reads' HO_4.out).2.2 x8_1 p448 q448
             cases e448
             replace p448 := eq_true p448
             replace q448 := eq_true q448
             have p449 : 0 ≤ ((ji36) : Int) := of_decide_eq_true (by first | (with_reducible assumption) | assumption)
             have q449 : (ji36) < (t437.length : Int) := of_decide_eq_true (by first | (with_reducible assumption) | assumption)
             obtain ⟨ad449, e449, hx449_0⟩ := Kd.at_int (Kd.R_reads' HO_4.out).2.2 (ji36) p449 q449
             obtain rfl : ad448 = ad449 := (by injection e449)
             replace p449 := eq_true p449
             replace q449 := eq_true q449
             go_wp2
             repeat (go_quiet (fail); try go_wp2)
             go_meet
             case rel => exact ⟨_, (true), (by first | rfl | (simp; done) | (simp [*]; done)), H', ⟨by have := HK1.out; first | omega | exact Nat.le_refl _⟩, ⟨by (with_reducible repeat (first | apply Kd.R_alloc | apply Kd.R_drewN | apply Kd.R_drew)); exact HO_4.out⟩, ⟨by (with_reducible repeat (first | apply Kd.R_alloc | apply Kd.R_drewN | apply Kd.R_drew)); exact HO_5.out⟩, ⟨by (with_reducible repeat (first | apply Kd.V_alloc | apply Kd.V_drewN | apply Kd.V_drew)); exact HO_426000.out⟩, ⟨by (with_reducible repeat (first | apply Kd.V_alloc | apply Kd.V_drewN | apply Kd.V_drew)); exact HO_426001.out⟩, ⟨by (with_reducible repeat (first | apply Kd.V_alloc | apply Kd.V_drewN | apply Kd.V_drew)); exact HO_426002.out⟩, ⟨by (with_reducible repeat (first | refine blk_drewN ?_ _ | refine blk_drew ?_ | refine blk_alloc ?_ _)); exact BK425.out⟩, ⟨by repeat (first | (with_reducible first | exact HB.out | apply below_alloc | apply pw_below_drewN | apply below_drew1 | refine below_set ?_ GE425.out) | exact HB.out)⟩⟩
            ·
             rw [if_neg c39] at H
             have c39b0 : decide ((rd t437 x8_1) < (rd t437 (ji36))) = false := decide_eq_false c39
             clear c39
             have H' := Aside0.mk H
             clear H
             have p448 : 0 ≤ (x8_1 : Int) := of_decide_eq_true (by first | (with_reducible assumption) | assumption)
             have q448 : x8_1 < (t437.length : Int) := of_decide_eq_true (by first | (with_reducible assumption) | assumption)
             obtain ⟨ad448, e448, hx448_0⟩ := Kd.at_int (Kd.R_reads' HO_4.out).2.2 x8_1 p448 q448
             cases e448
             replace p448 := eq_true p448
             replace q448 := eq_true q448
             have p449 : 0 ≤ ((ji36) : Int) := of_decide_eq_true (by first | (with_reducible assumption) | assumption)
             have q449 : (ji36) < (t437.length : Int) := of_decide_eq_true (by first | (with_reducible assumption) | assumption)
             obtain ⟨ad449, e449, hx449_0⟩ := Kd.at_int (Kd.R_reads' HO_4.out).2.2 (ji36) p449 q449
             obtain rfl : ad448 = ad449 := (by injection e449)
             replace p449 := eq_true p449
             replace q449 := eq_true q449
             have p450 : 0 ≤ (x8_1 : Int) := of_decide_eq_true (by first | (with_reducible assumption) | assumption)
             have q450 : x8_1 < (t437.length : Int) := of_decide_eq_true (by first | (with_reducible assumption) | assumption)
             obtain ⟨ad450, e450, hx450_0⟩ := Kd.at_int (Kd.R_reads' HO_4.out).2.2 x8_1 p450 q450
             obtain rfl : ad448 = ad450 := (by injection e450)
             replace p450 := eq_true p450
             replace q450 := eq_true q450
             have p451 : 0 ≤ ((ji36) : Int) := of_decide_eq_true (by first | (with_reducible assumption) | assumption)
             have q451 : (ji36) < (t437.length : Int) := of_decide_eq_true (by first | (with_reducible assumption) | assumption)
             obtain ⟨ad451, e451, hx451_0⟩ := Kd.at_int (Kd.R_reads' HO_4.out).2.2 (ji36) p451 q451
             obtain rfl : ad448 = ad451 := (by injection e451)
             replace p451 := eq_true p451
             replace q451 := eq_true q451
             go_wp2
             repeat (go_quiet (fail); try go_wp2)
             go_meet
             case rel => exact ⟨_, (decide ((rd t437 x8_1) > (wrap64 ((rd t437 (ji36)) + 1)))), (by first | rfl | (simp; done) | (simp only [← hji36] <;> (first | rfl | simp)) | (simp [*]; done)), H', ⟨by have := HK1.out; first | omega | exact Nat.le_refl _⟩, ⟨by (with_reducible repeat (first | apply Kd.R_alloc | apply Kd.R_drewN | apply Kd.R_drew)); exact HO_4.out⟩, ⟨by (with_reducible repeat (first | apply Kd.R_alloc | apply Kd.R_drewN | apply Kd.R_drew)); exact HO_5.out⟩, ⟨by (with_reducible repeat (first | apply Kd.V_alloc | apply Kd.V_drewN | apply Kd.V_drew)); exact HO_426000.out⟩, ⟨by (with_reducible repeat (first | apply Kd.V_alloc | apply Kd.V_drewN | apply Kd.V_drew)); exact HO_426001.out⟩, ⟨by (with_reducible repeat (first | apply Kd.V_alloc | apply Kd.V_drewN | apply Kd.V_drew)); exact HO_426002.out⟩, ⟨by (with_reducible repeat (first | refine blk_drewN ?_ _ | refine blk_drew ?_ | refine blk_alloc ?_ _)); exact BK425.out⟩, ⟨by repeat (first | (with_reducible first | exact HB.out | apply below_alloc | apply pw_below_drewN | apply below_drew1 | refine below_set ?_ GE425.out) | exact HB.out)⟩⟩
           ·
            rw [if_neg c38] at H
            exact absurd H (by simp)
          ·
           rw [if_neg c37] at H
           exact absurd H (by simp)
         ·
          rw [if_neg c35] at H
          exact absurd H (by simp)
        ·
         rw [if_neg c34] at H
         have c34b0 : decide (0 < x8_1) = false := decide_eq_false c34
         clear c34
         have H' := Aside0.mk H
         clear H
         go_wp2
         repeat (go_quiet (fail); try go_wp2)
         go_meet
         case rel => exact ⟨_, (false), (by first | rfl | (simp; done) | (simp [*]; done)), H', ⟨by have := HK1.out; first | omega | exact Nat.le_refl _⟩, ⟨by (with_reducible repeat (first | apply Kd.R_alloc | apply Kd.R_drewN | apply Kd.R_drew)); exact HO_4.out⟩, ⟨by (with_reducible repeat (first | apply Kd.R_alloc | apply Kd.R_drewN | apply Kd.R_drew)); exact HO_5.out⟩, ⟨by (with_reducible repeat (first | apply Kd.V_alloc | apply Kd.V_drewN | apply Kd.V_drew)); exact HO_426000.out⟩, ⟨by (with_reducible repeat (first | apply Kd.V_alloc | apply Kd.V_drewN | apply Kd.V_drew)); exact HO_426001.out⟩, ⟨by (with_reducible repeat (first | apply Kd.V_alloc | apply Kd.V_drewN | apply Kd.V_drew)); exact HO_426002.out⟩, ⟨by (with_reducible repeat (first | refine blk_drewN ?_ _ | refine blk_drew ?_ | refine blk_alloc ?_ _)); exact BK425.out⟩, ⟨by repeat (first | (with_reducible first | exact HB.out | apply below_alloc | apply pw_below_drewN | apply below_drew1 | refine below_set ?_ GE425.out) | exact HB.out)⟩⟩
     case rest =>
      as_aux_lemma =>
       clear HC24
       try clear c2
       try clear p2
       try clear c3
       try clear p4
       try clear q4
       try clear hx4
       try clear qi4
       try clear c6
       try clear p6
       try clear c8
       try clear c8b0
       try clear c8b1
       try clear c8b2
       try clear c23
       try clear c23b0
       try clear c25
       try clear c25b0
       try clear c25b1
       try clear c26
       try clear c26b0
       try clear c26b1
       try clear c27
       try clear c27b0
       try clear c27b1
       try clear c28
       try clear c28b0
       try clear c29
       try clear c29b0
       try clear c31
       try clear c31b0
       try clear c32
       try clear c32b0
       try clear c33
       try clear c33b0
       try clear c34
       try clear c34b0
       try clear c35
       try clear c35b0
       try clear c37
       try clear c37b0
       try clear c38
       try clear c38b0
       try clear c39
       try clear c39b0
       try clear hcz11_0
       try clear hcz11_1
       try clear hcz11_2
       try clear hcz11_3
       try clear hcz14_0
       try clear hcz14_1
       try clear hcz14_2
       try clear hcz14_3
       try clear hcz18_0
       try clear hcz18_1
       try clear hcz18_2
       try clear hcz18_3
       try clear hcz20_0
       try clear hcz20_1
       try clear hcz20_2
       try clear hcz20_3
       try clear hfz11_0
       try clear hfz11_1
       try clear hfz11_2
       try clear hfz11_3
       try clear hfz14_0
       try clear hfz14_1
       try clear hfz14_2
       try clear hfz14_3
       try clear hfz18_0
       try clear hfz18_1
       try clear hfz18_2
       try clear hfz18_3
       try clear hfz20_0
       try clear hfz20_1
       try clear hfz20_2
       try clear hfz20_3
       try clear hx443_0
       try clear hx444_0
       try clear hx445_0
       try clear hx446_0
       try clear hx447_0
       try clear hx448_0
       try clear hx449_0
       try clear hx450_0
       try clear hx451_0
       try clear p2
       try clear p443
       try clear p444
       try clear p445
       try clear p446
       try clear p447
       try clear p448
       try clear p449
       try clear p450
       try clear p451
       try clear q443
       try clear q444
       try clear q445
       try clear q446
       try clear q447
       try clear q448
       try clear q449
       try clear q450
       try clear q451
       obtain ⟨kq, x81_23, rfl, HA, HJ23, HO_4, HO_5, HO_426000, HO_426001, HO_426002, BK425, HB⟩ := hcut
       cases kq with
       | zero => exact absurd HA.out (by simp [abugidalaw08_BreaksGreedy.j1])
       | succ kj23 =>
        have H := HA.out
        clear HA
        simp only [abugidalaw08_BreaksGreedy.j1] at H
        by_cases c40 : x81_23 = true
        ·
         subst c40
         have H1 : (some false) = some r := by rw [if_pos rfl] at H; exact H
         clear H
         have H := H1
         clear H1
         obtain rfl := Option.some.inj H
         go_wp2
         repeat (go_quiet (fail); try go_wp2)
         go_ret
         exact ⟨by first | rfl | (simp [errW_none, errW_some] <;> rfl) | (simp only [← hji6, ← hji7]; first | rfl | (simp [errW_none, errW_some] <;> rfl)) | (simp [*, errW_none, errW_some] <;> rfl), by repeat (first | (with_reducible first | exact HB.out | apply below_alloc | apply pw_below_drewN | apply below_drew1 | refine below_set ?_ GE425.out) | exact HB.out)⟩
        ·
         replace c40 := Bool.eq_false_iff.mpr c40
         subst c40
         have H1 : (if x8_1 > 0 then (if 0 ≤ x8_1 then (if x8_1 < (t437.length : Int) then (if 0 ≤ (wrap64 (x8_1 - 1)) then (if (wrap64 (x8_1 - 1)) < (t437.length : Int) then (abugidalaw08_BreaksGreedy.j2 kj23 t426 t437 t440 ji7 x7_1 x8_1 (decide ((rd t437 x8_1) > (rd t437 (wrap64 (x8_1 - 1)))))) else (none)) else (none)) else (none)) else (none)) else (abugidalaw08_BreaksGreedy.j2 kj23 t426 t437 t440 ji7 x7_1 x8_1 false)) = some r := by rw [if_neg (show ¬ (false = true) by decide)] at H; exact H
         clear H
         have H := H1
         clear H1
         have HC41 := Aside0.mk H
         clear H
         go_upto_region 14 with (fail)
         repeat (go_quiet (fail); go_upto_region 14 with (fail))
         go_cut [95] (fun v95 wc => ∃ (kq : Nat) (x95_40 : Bool), v95 = .bool x95_40 ∧ Aside0 (abugidalaw08_BreaksGreedy.j2 kq t426 t437 t440 ji7 x7_1 x8_1 x95_40 = some r) ∧ Aside0 (kq ≤ kj23) ∧ Aside0 (Kd.R (Kd.int .i64) 3 wc w.heap.size (fun _ => True) (.slice Ao21 t437.length co21) t437) ∧ Aside0 (Kd.R k44 44 wc w.heap.size (fun _ => True) (.slice Ao22 t440.length co22) t440) ∧ Aside0 (Kd.V (Kd.int .i64) 3 wc w.heap.size (fun k_ => some k_ ≠ ((.slice Ao21 t437.length co21) : Value).ownBlock ∧ some k_ ≠ ((.slice Ao22 t440.length co22) : Value).ownBlock ∧ k_ ≠ gb425) (.slice Ao13 t427.length co13) t427) ∧ Aside0 (Kd.V (Kd.int .i64) 3 wc w.heap.size (fun k_ => some k_ ≠ ((.slice Ao21 t437.length co21) : Value).ownBlock ∧ some k_ ≠ ((.slice Ao22 t440.length co22) : Value).ownBlock ∧ k_ ≠ gb425) (.slice Ao15 t430.length co15) t430) ∧ Aside0 (Kd.V Kd.bool 4 wc w.heap.size (fun k_ => some k_ ≠ ((.slice Ao21 t437.length co21) : Value).ownBlock ∧ some k_ ≠ ((.slice Ao22 t440.length co22) : Value).ownBlock ∧ k_ ≠ gb425) (.slice Ao16 t433.length co16) t433) ∧ Aside0 (wc.heap[gb425]? = some (.cells #[(.slice Ao13 t427.length co13), (.slice Ao15 t430.length co15), (.slice Ao16 t433.length co16), .int .i64 t436] 37 (0, 0))) ∧ Aside0 (Below w.heap.size w wc))
         case first =>
          as_aux_lemma =>
           have H := HC41.out
           clear HC41
           by_cases c42 : x8_1 > 0
           ·
            rw [if_pos c42] at H
            have c42b0 : decide (0 < x8_1) = true := decide_eq_true c42
            clear c42
            (first | rw [c42b0] | (simp only [i64_w, i32_w]; rw [c42b0]) | skip)
            by_cases c43 : 0 ≤ x8_1
            ·
             rw [if_pos c43] at H
             have c43b0 : decide (0 ≤ x8_1) = true := decide_eq_true c43
             clear c43
             by_cases c44 : x8_1 < (t437.length : Int)
             ·
              rw [if_pos c44] at H
              have c44b0 : decide (x8_1 < (t437.length : Int)) = true := decide_eq_true c44
              clear c44
              obtain ⟨ji45, hji45⟩ : ∃ j_ : Int, (wrap64 (x8_1 - 1)) = j_ := ⟨_, rfl⟩
              replace H : (if 0 ≤ (ji45) then (if (ji45) < (t437.length : Int) then (abugidalaw08_BreaksGreedy.j2 kj23 t426 t437 t440 ji7 x7_1 x8_1 (decide ((rd t437 x8_1) > (rd t437 (ji45))))) else (none)) else (none)) = some r := by first | (rw [hji45] at H; exact H) | (simp only [hji45] at H ⊢; exact H)
              have hji45w : (IntKind.i64.wrap (x8_1 - 1)) = ji45 := (i64_w _).trans hji45
              by_cases c46 : 0 ≤ (ji45)
              ·
               rw [if_pos c46] at H
               have c46b0 : decide (0 ≤ (ji45)) = true := decide_eq_true c46
               clear c46
               by_cases c47 : (ji45) < (t437.length : Int)
               ·
                rw [if_pos c47] at H
                have c47b0 : decide ((ji45) < (t437.length : Int)) = true := decide_eq_true c47
                clear c47
                have H' := Aside0.mk H
                clear H
                have p452 : 0 ≤ (x8_1 : Int) := of_decide_eq_true (by first | (with_reducible assumption) | assumption)
                have q452 : x8_1 < (t437.length : Int) := of_decide_eq_true (by first | (with_reducible assumption) | assumption)
                obtain ⟨ad452, e452, hx452_0⟩ := Kd.at_int (Kd.R_reads' HO_4.out).2.2 x8_1 p452 q452
                cases e452
                replace p452 := eq_true p452
                replace q452 := eq_true q452
                have p453 : 0 ≤ ((ji45) : Int) := of_decide_eq_true (by first | (with_reducible assumption) | assumption)
                have q453 : (ji45) < (t437.length : Int) := of_decide_eq_true (by first | (with_reducible assumption) | assumption)
                obtain ⟨ad453, e453, hx453_0⟩ := Kd.at_int (Kd.R_reads' HO_4.out).2.2 (ji45) p453 q453
                obtain rfl : ad452 = ad453 := (by injection e453)
                replace p453 := eq_true p453
                replace q453 := eq_true q453
                go_wp2
                repeat (go_quiet (fail); try go_wp2)
                go_meet
                case rel => exact ⟨_, (decide ((rd t437 x8_1) > (rd t437 (ji45)))), (by first | rfl | (simp; done) | (simp only [← hji45] <;> (first | rfl | simp)) | (simp [*]; done)), H', ⟨by have := HK1.out; have := HJ23.out; first | omega | exact Nat.le_refl _⟩, ⟨by (with_reducible repeat (first | apply Kd.R_alloc | apply Kd.R_drewN | apply Kd.R_drew)); exact HO_4.out⟩, ⟨by (with_reducible repeat (first | apply Kd.R_alloc | apply Kd.R_drewN | apply Kd.R_drew)); exact HO_5.out⟩, ⟨by (with_reducible repeat (first | apply Kd.V_alloc | apply Kd.V_drewN | apply Kd.V_drew)); exact HO_426000.out⟩, ⟨by (with_reducible repeat (first | apply Kd.V_alloc | apply Kd.V_drewN | apply Kd.V_drew)); exact HO_426001.out⟩, ⟨by (with_reducible repeat (first | apply Kd.V_alloc | apply Kd.V_drewN | apply Kd.V_drew)); exact HO_426002.out⟩, ⟨by (with_reducible repeat (first | refine blk_drewN ?_ _ | refine blk_drew ?_ | refine blk_alloc ?_ _)); exact BK425.out⟩, ⟨by repeat (first | (with_reducible first | exact HB.out | apply below_alloc | apply pw_below_drewN | apply below_drew1 | refine below_set ?_ GE425.out) | exact HB.out)⟩⟩
               ·
                rw [if_neg c47] at H
                exact absurd H (by simp)
              ·
               rw [if_neg c46] at H
               exact absurd H (by simp)
             ·
              rw [if_neg c44] at H
              exact absurd H (by simp)
            ·
             rw [if_neg c43] at H
             exact absurd H (by simp)
           ·
            rw [if_neg c42] at H
            have c42b0 : decide (0 < x8_1) = false := decide_eq_false c42
            clear c42
            (first | rw [c42b0] | (simp only [i64_w, i32_w]; rw [c42b0]) | skip)
            have H' := Aside0.mk H
            clear H
            go_wp2
            repeat (go_quiet (fail); try go_wp2)
            go_meet
            case rel => exact ⟨_, (false), (by first | rfl | (simp; done) | (simp [*]; done)), H', ⟨by have := HK1.out; have := HJ23.out; first | omega | exact Nat.le_refl _⟩, ⟨by (with_reducible repeat (first | apply Kd.R_alloc | apply Kd.R_drewN | apply Kd.R_drew)); exact HO_4.out⟩, ⟨by (with_reducible repeat (first | apply Kd.R_alloc | apply Kd.R_drewN | apply Kd.R_drew)); exact HO_5.out⟩, ⟨by (with_reducible repeat (first | apply Kd.V_alloc | apply Kd.V_drewN | apply Kd.V_drew)); exact HO_426000.out⟩, ⟨by (with_reducible repeat (first | apply Kd.V_alloc | apply Kd.V_drewN | apply Kd.V_drew)); exact HO_426001.out⟩, ⟨by (with_reducible repeat (first | apply Kd.V_alloc | apply Kd.V_drewN | apply Kd.V_drew)); exact HO_426002.out⟩, ⟨by (with_reducible repeat (first | refine blk_drewN ?_ _ | refine blk_drew ?_ | refine blk_alloc ?_ _)); exact BK425.out⟩, ⟨by repeat (first | (with_reducible first | exact HB.out | apply below_alloc | apply pw_below_drewN | apply below_drew1 | refine below_set ?_ GE425.out) | exact HB.out)⟩⟩
         case rest =>
          as_aux_lemma =>
           clear HC41
           try clear c2
           try clear p2
           try clear c3
           try clear c4
           try clear p4
           try clear q4
           try clear hx4
           try clear qi4
           try clear c6
           try clear p6
           try clear c8
           try clear c8b0
           try clear c8b1
           try clear c8b2
           try clear c23
           try clear c23b0
           try clear c25
           try clear c25b0
           try clear c25b1
           try clear c26
           try clear c26b0
           try clear c26b1
           try clear c27
           try clear c27b0
           try clear c27b1
           try clear c28
           try clear c28b0
           try clear c29
           try clear c29b0
           try clear c31
           try clear c31b0
           try clear c32
           try clear c32b0
           try clear c33
           try clear c33b0
           try clear c34
           try clear c34b0
           try clear c35
           try clear c35b0
           try clear c37
           try clear c37b0
           try clear c38
           try clear c38b0
           try clear c39
           try clear c39b0
           try clear c40
           try clear c42
           try clear c42b0
           try clear c43
           try clear c43b0
           try clear c44
           try clear c44b0
           try clear p44
           try clear q44
           try clear hx44
           try clear qi44
           try clear p45
           try clear q45
           try clear hx45
           try clear c46
           try clear c46b0
           try clear c47
           try clear c47b0
           try clear hcz11_0
           try clear hcz11_1
           try clear hcz11_2
           try clear hcz11_3
           try clear hcz14_0
           try clear hcz14_1
           try clear hcz14_2
           try clear hcz14_3
           try clear hcz18_0
           try clear hcz18_1
           try clear hcz18_2
           try clear hcz18_3
           try clear hcz20_0
           try clear hcz20_1
           try clear hcz20_2
           try clear hcz20_3
           try clear hfz11_0
           try clear hfz11_1
           try clear hfz11_2
           try clear hfz11_3
           try clear hfz14_0
           try clear hfz14_1
           try clear hfz14_2
           try clear hfz14_3
           try clear hfz18_0
           try clear hfz18_1
           try clear hfz18_2
           try clear hfz18_3
           try clear hfz20_0
           try clear hfz20_1
           try clear hfz20_2
           try clear hfz20_3
           try clear hx443_0
           try clear hx444_0
           try clear hx445_0
           try clear hx446_0
           try clear hx447_0
           try clear hx448_0
           try clear hx449_0
           try clear hx450_0
           try clear hx451_0
           try clear hx452_0
           try clear hx453_0
           try clear p2
           try clear p4
           try clear p443
           try clear p444
           try clear p445
           try clear p446
           try clear p447
           try clear p448
           try clear p449
           try clear p450
           try clear p451
           try clear p452
           try clear p453
           try clear p6
           try clear q4
           try clear q443
           try clear q444
           try clear q445
           try clear q446
           try clear q447
           try clear q448
           try clear q449
           try clear q450
           try clear q451
           try clear q452
           try clear q453
           obtain ⟨kq, x95_40, rfl, HA, HJ40, HO_4, HO_5, HO_426000, HO_426001, HO_426002, BK425, HB⟩ := hcut
           cases kq with
           | zero => exact absurd HA.out (by simp [abugidalaw08_BreaksGreedy.j2])
           | succ kj40 =>
            have H := HA.out
            clear HA
            simp only [abugidalaw08_BreaksGreedy.j2] at H
            have HC48 := Aside0.mk H
            clear H
            go_upto_if 95 with (fail)
            repeat (go_quiet (fail); go_upto_if 95 with (fail))
            go_cut [7] (fun v7 wc => ∃ (kq : Nat) (x7_47 : Int), v7 = .int .i64 x7_47 ∧ Aside0 (abugidalaw08_BreaksGreedy.j3 kq t426 t437 t440 ji7 x7_47 x8_1 = some r) ∧ Aside0 (kq ≤ kj40) ∧ Aside0 (Kd.R (Kd.int .i64) 3 wc w.heap.size (fun _ => True) (.slice Ao21 t437.length co21) t437) ∧ Aside0 (Kd.R k44 44 wc w.heap.size (fun _ => True) (.slice Ao22 t440.length co22) t440) ∧ Aside0 (Kd.V (Kd.int .i64) 3 wc w.heap.size (fun k_ => some k_ ≠ ((.slice Ao21 t437.length co21) : Value).ownBlock ∧ some k_ ≠ ((.slice Ao22 t440.length co22) : Value).ownBlock ∧ k_ ≠ gb425) (.slice Ao13 t427.length co13) t427) ∧ Aside0 (Kd.V (Kd.int .i64) 3 wc w.heap.size (fun k_ => some k_ ≠ ((.slice Ao21 t437.length co21) : Value).ownBlock ∧ some k_ ≠ ((.slice Ao22 t440.length co22) : Value).ownBlock ∧ k_ ≠ gb425) (.slice Ao15 t430.length co15) t430) ∧ Aside0 (Kd.V Kd.bool 4 wc w.heap.size (fun k_ => some k_ ≠ ((.slice Ao21 t437.length co21) : Value).ownBlock ∧ some k_ ≠ ((.slice Ao22 t440.length co22) : Value).ownBlock ∧ k_ ≠ gb425) (.slice Ao16 t433.length co16) t433) ∧ Aside0 (wc.heap[gb425]? = some (.cells #[(.slice Ao13 t427.length co13), (.slice Ao15 t430.length co15), (.slice Ao16 t433.length co16), .int .i64 t436] 37 (0, 0))) ∧ Aside0 (Below w.heap.size w wc))
            case first =>
             as_aux_lemma =>
              have H := HC48.out
              clear HC48
              by_cases c49 : x95_40 = true
              ·
               subst c49
               have H1 : (abugidalaw08_BreaksGreedy.j3 kj40 t426 t437 t440 ji7 x8_1 x8_1) = some r := by rw [if_pos rfl] at H; exact H
               clear H
               have H := H1
               clear H1
               have H' := Aside0.mk H
               clear H
               go_wp2
               repeat (go_quiet (fail); try go_wp2)
               go_meet
               case rel => exact ⟨_, (x8_1), (by first | rfl | (simp; done) | (simp [*]; done)), H', ⟨by have := HK1.out; have := HJ23.out; have := HJ40.out; first | omega | exact Nat.le_refl _⟩, ⟨by (with_reducible repeat (first | apply Kd.R_alloc | apply Kd.R_drewN | apply Kd.R_drew)); exact HO_4.out⟩, ⟨by (with_reducible repeat (first | apply Kd.R_alloc | apply Kd.R_drewN | apply Kd.R_drew)); exact HO_5.out⟩, ⟨by (with_reducible repeat (first | apply Kd.V_alloc | apply Kd.V_drewN | apply Kd.V_drew)); exact HO_426000.out⟩, ⟨by (with_reducible repeat (first | apply Kd.V_alloc | apply Kd.V_drewN | apply Kd.V_drew)); exact HO_426001.out⟩, ⟨by (with_reducible repeat (first | apply Kd.V_alloc | apply Kd.V_drewN | apply Kd.V_drew)); exact HO_426002.out⟩, ⟨by (with_reducible repeat (first | refine blk_drewN ?_ _ | refine blk_drew ?_ | refine blk_alloc ?_ _)); exact BK425.out⟩, ⟨by repeat (first | (with_reducible first | exact HB.out | apply below_alloc | apply pw_below_drewN | apply below_drew1 | refine below_set ?_ GE425.out) | exact HB.out)⟩⟩
              ·
               replace c49 := Bool.eq_false_iff.mpr c49
               subst c49
               have H1 : (abugidalaw08_BreaksGreedy.j3 kj40 t426 t437 t440 ji7 x7_1 x8_1) = some r := by rw [if_neg (show ¬ (false = true) by decide)] at H; exact H
               clear H
               have H := H1
               clear H1
               have H' := Aside0.mk H
               clear H
               go_wp2
               repeat (go_quiet (fail); try go_wp2)
               go_meet
               case rel => exact ⟨_, (x7_1), (by first | rfl | (simp; done) | (simp [*]; done)), H', ⟨by have := HK1.out; have := HJ23.out; have := HJ40.out; first | omega | exact Nat.le_refl _⟩, ⟨by (with_reducible repeat (first | apply Kd.R_alloc | apply Kd.R_drewN | apply Kd.R_drew)); exact HO_4.out⟩, ⟨by (with_reducible repeat (first | apply Kd.R_alloc | apply Kd.R_drewN | apply Kd.R_drew)); exact HO_5.out⟩, ⟨by (with_reducible repeat (first | apply Kd.V_alloc | apply Kd.V_drewN | apply Kd.V_drew)); exact HO_426000.out⟩, ⟨by (with_reducible repeat (first | apply Kd.V_alloc | apply Kd.V_drewN | apply Kd.V_drew)); exact HO_426001.out⟩, ⟨by (with_reducible repeat (first | apply Kd.V_alloc | apply Kd.V_drewN | apply Kd.V_drew)); exact HO_426002.out⟩, ⟨by (with_reducible repeat (first | refine blk_drewN ?_ _ | refine blk_drew ?_ | refine blk_alloc ?_ _)); exact BK425.out⟩, ⟨by repeat (first | (with_reducible first | exact HB.out | apply below_alloc | apply pw_below_drewN | apply below_drew1 | refine below_set ?_ GE425.out) | exact HB.out)⟩⟩
            case rest =>
             as_aux_lemma =>
              clear HC48
              try clear c2
              try clear p2
              try clear c3
              try clear c4
              try clear p4
              try clear q4
              try clear hx4
              try clear qi4
              try clear c6
              try clear p6
              try clear c8
              try clear c8b0
              try clear c8b1
              try clear c8b2
              try clear c23
              try clear c23b0
              try clear c25
              try clear c25b0
              try clear c25b1
              try clear c26
              try clear c26b0
              try clear c26b1
              try clear c27
              try clear c27b0
              try clear c27b1
              try clear c28
              try clear c28b0
              try clear c29
              try clear c29b0
              try clear c31
              try clear c31b0
              try clear c32
              try clear c32b0
              try clear c33
              try clear c33b0
              try clear c34
              try clear c34b0
              try clear c35
              try clear c35b0
              try clear c37
              try clear c37b0
              try clear c38
              try clear c38b0
              try clear c39
              try clear c39b0
              try clear c40
              try clear c42
              try clear c42b0
              try clear c43
              try clear c43b0
              try clear c44
              try clear c44b0
              try clear p44
              try clear q44
              try clear hx44
              try clear qi44
              try clear p45
              try clear q45
              try clear hx45
              try clear c46
              try clear c46b0
              try clear c47
              try clear c47b0
              try clear c49
              try clear hcz11_0
              try clear hcz11_1
              try clear hcz11_2
              try clear hcz11_3
              try clear hcz14_0
              try clear hcz14_1
              try clear hcz14_2
              try clear hcz14_3
              try clear hcz18_0
              try clear hcz18_1
              try clear hcz18_2
              try clear hcz18_3
              try clear hcz20_0
              try clear hcz20_1
              try clear hcz20_2
              try clear hcz20_3
              try clear hfz11_0
              try clear hfz11_1
              try clear hfz11_2
              try clear hfz11_3
              try clear hfz14_0
              try clear hfz14_1
              try clear hfz14_2
              try clear hfz14_3
              try clear hfz18_0
              try clear hfz18_1
              try clear hfz18_2
              try clear hfz18_3
              try clear hfz20_0
              try clear hfz20_1
              try clear hfz20_2
              try clear hfz20_3
              try clear hx443_0
              try clear hx444_0
              try clear hx445_0
              try clear hx446_0
              try clear hx447_0
              try clear hx448_0
              try clear hx449_0
              try clear hx450_0
              try clear hx451_0
              try clear hx452_0
              try clear hx453_0
              try clear p2
              try clear p4
              try clear p44
              try clear p443
              try clear p444
              try clear p445
              try clear p446
              try clear p447
              try clear p448
              try clear p449
              try clear p45
              try clear p450
              try clear p451
              try clear p452
              try clear p453
              try clear p6
              try clear q4
              try clear q44
              try clear q443
              try clear q444
              try clear q445
              try clear q446
              try clear q447
              try clear q448
              try clear q449
              try clear q45
              try clear q450
              try clear q451
              try clear q452
              try clear q453
              obtain ⟨kq, x7_47, rfl, HA, HJ47, HO_4, HO_5, HO_426000, HO_426001, HO_426002, BK425, HB⟩ := hcut
              cases kq with
              | zero => exact absurd HA.out (by simp [abugidalaw08_BreaksGreedy.j3])
              | succ kj47 =>
               have H := HA.out
               clear HA
               simp only [abugidalaw08_BreaksGreedy.j3] at H
               have HC50 := Aside0.mk H
               clear H
               go_upto_region 16 with (fail)
               repeat (go_quiet (fail); go_upto_region 16 with (fail))
               go_cut [9] (fun v9 wc => ∃ (kq : Nat) (x9_49 : Bool), v9 = .bool x9_49 ∧ Aside0 (abugidalaw08_BreaksGreedy.j4 kq t426 t437 t440 ji7 x7_47 x8_1 x9_49 = some r) ∧ Aside0 (kq ≤ kj47) ∧ Aside0 (Kd.R (Kd.int .i64) 3 wc w.heap.size (fun _ => True) (.slice Ao21 t437.length co21) t437) ∧ Aside0 (Kd.R k44 44 wc w.heap.size (fun _ => True) (.slice Ao22 t440.length co22) t440) ∧ Aside0 (Kd.V (Kd.int .i64) 3 wc w.heap.size (fun k_ => some k_ ≠ ((.slice Ao21 t437.length co21) : Value).ownBlock ∧ some k_ ≠ ((.slice Ao22 t440.length co22) : Value).ownBlock ∧ k_ ≠ gb425) (.slice Ao13 t427.length co13) t427) ∧ Aside0 (Kd.V (Kd.int .i64) 3 wc w.heap.size (fun k_ => some k_ ≠ ((.slice Ao21 t437.length co21) : Value).ownBlock ∧ some k_ ≠ ((.slice Ao22 t440.length co22) : Value).ownBlock ∧ k_ ≠ gb425) (.slice Ao15 t430.length co15) t430) ∧ Aside0 (Kd.V Kd.bool 4 wc w.heap.size (fun k_ => some k_ ≠ ((.slice Ao21 t437.length co21) : Value).ownBlock ∧ some k_ ≠ ((.slice Ao22 t440.length co22) : Value).ownBlock ∧ k_ ≠ gb425) (.slice Ao16 t433.length co16) t433) ∧ Aside0 (wc.heap[gb425]? = some (.cells #[(.slice Ao13 t427.length co13), (.slice Ao15 t430.length co15), (.slice Ao16 t433.length co16), .int .i64 t436] 37 (0, 0))) ∧ Aside0 (Below w.heap.size w wc))
               case first =>
                as_aux_lemma =>
                 have H := HC50.out
                 clear HC50
                 by_cases c51 : x8_1 = (wrap64 ((t437.length : Int) - 1))
                 ·
                  rw [if_pos c51] at H
                  have c51b0 : (x8_1 == (wrap64 ((t437.length : Int) - 1))) = true := beq_iff_eq.mpr c51
                  have c51b1 : (x8_1 != (wrap64 ((t437.length : Int) - 1))) = false := bne_eq_false_iff_eq.mpr c51
                  clear c51
                  (first | rw [c51b0] | (simp only [i64_w, i32_w]; rw [c51b0]) | skip)
                  have H' := Aside0.mk H
                  clear H
                  go_wp2
                  repeat (go_quiet (fail); try go_wp2)
                  go_meet
                  case rel => exact ⟨_, (true), (by first | rfl | (simp; done) | (simp [*]; done)), H', ⟨by have := HK1.out; have := HJ23.out; have := HJ40.out; have := HJ47.out; first | omega | exact Nat.le_refl _⟩, ⟨by (with_reducible repeat (first | apply Kd.R_alloc | apply Kd.R_drewN | apply Kd.R_drew)); exact HO_4.out⟩, ⟨by (with_reducible repeat (first | apply Kd.R_alloc | apply Kd.R_drewN | apply Kd.R_drew)); exact HO_5.out⟩, ⟨by (with_reducible repeat (first | apply Kd.V_alloc | apply Kd.V_drewN | apply Kd.V_drew)); exact HO_426000.out⟩, ⟨by (with_reducible repeat (first | apply Kd.V_alloc | apply Kd.V_drewN | apply Kd.V_drew)); exact HO_426001.out⟩, ⟨by (with_reducible repeat (first | apply Kd.V_alloc | apply Kd.V_drewN | apply Kd.V_drew)); exact HO_426002.out⟩, ⟨by (with_reducible repeat (first | refine blk_drewN ?_ _ | refine blk_drew ?_ | refine blk_alloc ?_ _)); exact BK425.out⟩, ⟨by repeat (first | (with_reducible first | exact HB.out | apply below_alloc | apply pw_below_drewN | apply below_drew1 | refine below_set ?_ GE425.out) | exact HB.out)⟩⟩
                 ·
                  rw [if_neg c51] at H
                  have c51b0 : (x8_1 == (wrap64 ((t437.length : Int) - 1))) = false := beq_eq_false_iff_ne.mpr c51
                  have c51b1 : (x8_1 != (wrap64 ((t437.length : Int) - 1))) = true := bne_iff_ne.mpr c51
                  (first | rw [c51b0] | (simp only [i64_w, i32_w]; rw [c51b0]) | skip)
                  obtain ⟨ji52, hji52⟩ : ∃ j_ : Int, (wrap64 (x8_1 + 1)) = j_ := ⟨_, rfl⟩
                  replace H : (if 0 ≤ (ji52) then (if (ji52) < (t437.length : Int) then (if 0 ≤ x8_1 then (if x8_1 < (t437.length : Int) then (abugidalaw08_BreaksGreedy.j4 kj47 t426 t437 t440 ji7 x7_47 x8_1 (decide ((rd t437 (ji52)) > (rd t437 x8_1)))) else (none)) else (none)) else (none)) else (none)) = some r := by first | (rw [hji52] at H; exact H) | (simp only [hji52] at H ⊢; exact H)
                  have hji52w : (IntKind.i64.wrap (x8_1 + 1)) = ji52 := (i64_w _).trans hji52
                  by_cases c53 : 0 ≤ (ji52)
                  ·
                   rw [if_pos c53] at H
                   have c53b0 : decide (0 ≤ (ji52)) = true := decide_eq_true c53
                   clear c53
                   by_cases c54 : (ji52) < (t437.length : Int)
                   ·
                    rw [if_pos c54] at H
                    have c54b0 : decide ((ji52) < (t437.length : Int)) = true := decide_eq_true c54
                    clear c54
                    by_cases c55 : 0 ≤ x8_1
                    ·
                     rw [if_pos c55] at H
                     have c55b0 : decide (0 ≤ x8_1) = true := decide_eq_true c55
                     clear c55
                     by_cases c56 : x8_1 < (t437.length : Int)
                     ·
                      rw [if_pos c56] at H
                      have c56b0 : decide (x8_1 < (t437.length : Int)) = true := decide_eq_true c56
                      clear c56
                      have H' := Aside0.mk H
                      clear H
                      have p454 : 0 ≤ ((ji52) : Int) := of_decide_eq_true (by first | (with_reducible assumption) | assumption)
                      have q454 : (ji52) < (t437.length : Int) := of_decide_eq_true (by first | (with_reducible assumption) | assumption)
                      obtain ⟨ad454, e454, hx454_0⟩ := Kd.at_int (Kd.R_reads' HO_4.out).2.2 (ji52) p454 q454
                      cases e454
                      replace p454 := eq_true p454
                      replace q454 := eq_true q454
                      have p455 : 0 ≤ (x8_1 : Int) := of_decide_eq_true (by first | (with_reducible assumption) | assumption)
                      have q455 : x8_1 < (t437.length : Int) := of_decide_eq_true (by first | (with_reducible assumption) | assumption)
                      obtain ⟨ad455, e455, hx455_0⟩ := Kd.at_int (Kd.R_reads' HO_4.out).2.2 x8_1 p455 q455
                      obtain rfl : ad454 = ad455 := (by injection e455)
                      replace p455 := eq_true p455
                      replace q455 := eq_true q455
                      go_wp2
                      repeat (go_quiet (fail); try go_wp2)
                      go_meet
                      case rel => exact ⟨_, (decide ((rd t437 (ji52)) > (rd t437 x8_1))), (by first | rfl | (simp; done) | (simp only [← hji52] <;> (first | rfl | simp)) | (simp [*]; done)), H', ⟨by have := HK1.out; have := HJ23.out; have := HJ40.out; have := HJ47.out; first | omega | exact Nat.le_refl _⟩, ⟨by (with_reducible repeat (first | apply Kd.R_alloc | apply Kd.R_drewN | apply Kd.R_drew)); exact HO_4.out⟩, ⟨by (with_reducible repeat (first | apply Kd.R_alloc | apply Kd.R_drewN | apply Kd.R_drew)); exact HO_5.out⟩, ⟨by (with_reducible repeat (first | apply Kd.V_alloc | apply Kd.V_drewN | apply Kd.V_drew)); exact HO_426000.out⟩, ⟨by (with_reducible repeat (first | apply Kd.V_alloc | apply Kd.V_drewN | apply Kd.V_drew)); exact HO_426001.out⟩, ⟨by (with_reducible repeat (first | apply Kd.V_alloc | apply Kd.V_drewN | apply Kd.V_drew)); exact HO_426002.out⟩, ⟨by (with_reducible repeat (first | refine blk_drewN ?_ _ | refine blk_drew ?_ | refine blk_alloc ?_ _)); exact BK425.out⟩, ⟨by repeat (first | (with_reducible first | exact HB.out | apply below_alloc | apply pw_below_drewN | apply below_drew1 | refine below_set ?_ GE425.out) | exact HB.out)⟩⟩
                     ·
                      rw [if_neg c56] at H
                      exact absurd H (by simp)
                    ·
                     rw [if_neg c55] at H
                     exact absurd H (by simp)
                   ·
                    rw [if_neg c54] at H
                    exact absurd H (by simp)
                  ·
                   rw [if_neg c53] at H
                   exact absurd H (by simp)
               case rest =>
                as_aux_lemma =>
                 clear HC50
                 try clear c2
                 try clear p2
                 try clear c3
                 try clear c4
                 try clear p4
                 try clear q4
                 try clear hx4
                 try clear qi4
                 try clear c5
                 try clear c6
                 try clear p6
                 try clear c8
                 try clear c8b0
                 try clear c8b1
                 try clear c8b2
                 try clear c23
                 try clear c23b0
                 try clear c25
                 try clear c25b0
                 try clear c25b1
                 try clear c26
                 try clear c26b0
                 try clear c26b1
                 try clear c27
                 try clear c27b0
                 try clear c27b1
                 try clear c28
                 try clear c28b0
                 try clear c29
                 try clear c29b0
                 try clear c31
                 try clear c31b0
                 try clear c32
                 try clear c32b0
                 try clear c33
                 try clear c33b0
                 try clear c34
                 try clear c34b0
                 try clear c35
                 try clear c35b0
                 try clear c37
                 try clear c37b0
                 try clear c38
                 try clear c38b0
                 try clear c39
                 try clear c39b0
                 try clear c40
                 try clear c42
                 try clear c42b0
                 try clear c43
                 try clear c43b0
                 try clear c44
                 try clear c44b0
                 try clear p44
                 try clear q44
                 try clear hx44
                 try clear qi44
                 try clear p45
                 try clear q45
                 try clear hx45
                 try clear c46
                 try clear c46b0
                 try clear c47
                 try clear c47b0
                 try clear c49
                 try clear c51
                 try clear c51b0
                 try clear c51b1
                 try clear c53
                 try clear c53b0
                 try clear c54
                 try clear c54b0
                 try clear c55
                 try clear c55b0
                 try clear c56
                 try clear c56b0
                 try clear hcz11_0
                 try clear hcz11_1
                 try clear hcz11_2
                 try clear hcz11_3
                 try clear hcz14_0
                 try clear hcz14_1
                 try clear hcz14_2
                 try clear hcz14_3
                 try clear hcz18_0
                 try clear hcz18_1
                 try clear hcz18_2
                 try clear hcz18_3
                 try clear hcz20_0
                 try clear hcz20_1
                 try clear hcz20_2
                 try clear hcz20_3
                 try clear hfz11_0
                 try clear hfz11_1
                 try clear hfz11_2
                 try clear hfz11_3
                 try clear hfz14_0
                 try clear hfz14_1
                 try clear hfz14_2
                 try clear hfz14_3
                 try clear hfz18_0
                 try clear hfz18_1
                 try clear hfz18_2
                 try clear hfz18_3
                 try clear hfz20_0
                 try clear hfz20_1
                 try clear hfz20_2
                 try clear hfz20_3
                 try clear hx443_0
                 try clear hx444_0
                 try clear hx445_0
                 try clear hx446_0
                 try clear hx447_0
                 try clear hx448_0
                 try clear hx449_0
                 try clear hx450_0
                 try clear hx451_0
                 try clear hx452_0
                 try clear hx453_0
                 try clear hx454_0
                 try clear hx455_0
                 try clear p2
                 try clear p4
                 try clear p44
                 try clear p443
                 try clear p444
                 try clear p445
                 try clear p446
                 try clear p447
                 try clear p448
                 try clear p449
                 try clear p45
                 try clear p450
                 try clear p451
                 try clear p452
                 try clear p453
                 try clear p454
                 try clear p455
                 try clear p6
                 try clear q4
                 try clear q44
                 try clear q443
                 try clear q444
                 try clear q445
                 try clear q446
                 try clear q447
                 try clear q448
                 try clear q449
                 try clear q45
                 try clear q450
                 try clear q451
                 try clear q452
                 try clear q453
                 try clear q454
                 try clear q455
                 obtain ⟨kq, x9_49, rfl, HA, HJ49, HO_4, HO_5, HO_426000, HO_426001, HO_426002, BK425, HB⟩ := hcut
                 cases kq with
                 | zero => exact absurd HA.out (by simp [abugidalaw08_BreaksGreedy.j4])
                 | succ kj49 =>
                  have H := HA.out
                  clear HA
                  simp only [abugidalaw08_BreaksGreedy.j4] at H
                  by_cases c57 : x9_49 = true
                  ·
                   subst c57
                   have H1 : ((abugidalaw08_sum.f kj49 t440 x7_47 x8_1).bind fun t457 => (if t457 > ji7 then (abugidalaw08_BreaksGreedy.j5 kj49 t426 t437 t440 ji7 x7_47 x8_1 (decide (x8_1 > x7_47))) else (abugidalaw08_BreaksGreedy.j5 kj49 t426 t437 t440 ji7 x7_47 x8_1 false))) = some r := by rw [if_pos rfl] at H; exact H
                   clear H
                   have H := H1
                   clear H1
                   have HC58 := Aside0.mk H
                   clear H
                   go_upto_region 20 with (fail)
                   repeat (go_quiet (fail); go_upto_region 20 with (fail))
                   go_cut [132] (fun v132 wc => ∃ (kq : Nat) (x132_57 : Bool), v132 = .bool x132_57 ∧ Aside0 (abugidalaw08_BreaksGreedy.j5 kq t426 t437 t440 ji7 x7_47 x8_1 x132_57 = some r) ∧ Aside0 (kq ≤ kj49) ∧ Aside0 (Kd.R (Kd.int .i64) 3 wc w.heap.size (fun _ => True) (.slice Ao21 t437.length co21) t437) ∧ Aside0 (Kd.R k44 44 wc w.heap.size (fun _ => True) (.slice Ao22 t440.length co22) t440) ∧ Aside0 (Kd.V (Kd.int .i64) 3 wc w.heap.size (fun k_ => some k_ ≠ ((.slice Ao21 t437.length co21) : Value).ownBlock ∧ some k_ ≠ ((.slice Ao22 t440.length co22) : Value).ownBlock ∧ k_ ≠ gb425) (.slice Ao13 t427.length co13) t427) ∧ Aside0 (Kd.V (Kd.int .i64) 3 wc w.heap.size (fun k_ => some k_ ≠ ((.slice Ao21 t437.length co21) : Value).ownBlock ∧ some k_ ≠ ((.slice Ao22 t440.length co22) : Value).ownBlock ∧ k_ ≠ gb425) (.slice Ao15 t430.length co15) t430) ∧ Aside0 (Kd.V Kd.bool 4 wc w.heap.size (fun k_ => some k_ ≠ ((.slice Ao21 t437.length co21) : Value).ownBlock ∧ some k_ ≠ ((.slice Ao22 t440.length co22) : Value).ownBlock ∧ k_ ≠ gb425) (.slice Ao16 t433.length co16) t433) ∧ Aside0 (wc.heap[gb425]? = some (.cells #[(.slice Ao13 t427.length co13), (.slice Ao15 t430.length co15), (.slice Ao16 t433.length co16), .int .i64 t436] 37 (0, 0))) ∧ Aside0 (Below w.heap.size w wc))
                   case first =>
                    as_aux_lemma =>
                     have H := HC58.out
                     clear HC58
                     replace H := Option.bind_eq_some_iff.mp H
                     obtain ⟨t457, A590, H⟩ := H
                     replace H : (if t457 > ji7 then (abugidalaw08_BreaksGreedy.j5 kj49 t426 t437 t440 ji7 x7_47 x8_1 (decide (x8_1 > x7_47))) else (abugidalaw08_BreaksGreedy.j5 kj49 t426 t437 t440 ji7 x7_47 x8_1 false)) = some r := H
                     have A59 := Aside0.mk A590
                     clear A590
                     by_cases c60 : t457 > ji7
                     ·
                      rw [if_pos c60] at H
                      have c60b0 : decide (ji7 < t457) = true := decide_eq_true c60
                      clear c60
                      (first | rw [c60b0] | (simp only [i64_w, i32_w]; rw [c60b0]) | skip)
                      have H' := Aside0.mk H
                      clear H
                      go_wp2_with (first | (go_at_call 21; (with_reducible refine (abugidalaw08_sum.calls kj49 _ _ t440 x7_47 x8_1 t457 _ ?side1 ?side2 A59.out).mono ?_); (case side1 => repeat (first | exact (Kd.R_reads' HO_5.out).2.2 | (with_reducible refine Kd.C_alloc ?_ _) | (with_reducible refine Kd.C_drewN ?_ _) | (with_reducible refine Kd.C_drew ?_))); (case side2 => exact (Kd.R_reads' HO_5.out).2.1); rintro e w' ⟨rfl, ⟨nd, rfl⟩⟩; (try first | exact ⟨rfl, _, World.drewN_drewN _ _ _⟩ | exact ⟨rfl, _, Eq.trans (World.drewN_drewN _ _ _) (congrArg (World.drewN _) (Nat.add_assoc _ _ _))⟩)))
                      repeat (go_quiet (first | (go_at_call 21; (with_reducible refine (abugidalaw08_sum.calls kj49 _ _ t440 x7_47 x8_1 t457 _ ?side1 ?side2 A59.out).mono ?_); (case side1 => repeat (first | exact (Kd.R_reads' HO_5.out).2.2 | (with_reducible refine Kd.C_alloc ?_ _) | (with_reducible refine Kd.C_drewN ?_ _) | (with_reducible refine Kd.C_drew ?_))); (case side2 => exact (Kd.R_reads' HO_5.out).2.1); rintro e w' ⟨rfl, ⟨nd, rfl⟩⟩; (try first | exact ⟨rfl, _, World.drewN_drewN _ _ _⟩ | exact ⟨rfl, _, Eq.trans (World.drewN_drewN _ _ _) (congrArg (World.drewN _) (Nat.add_assoc _ _ _))⟩))); try go_wp2_with (first | (go_at_call 21; (with_reducible refine (abugidalaw08_sum.calls kj49 _ _ t440 x7_47 x8_1 t457 _ ?side1 ?side2 A59.out).mono ?_); (case side1 => repeat (first | exact (Kd.R_reads' HO_5.out).2.2 | (with_reducible refine Kd.C_alloc ?_ _) | (with_reducible refine Kd.C_drewN ?_ _) | (with_reducible refine Kd.C_drew ?_))); (case side2 => exact (Kd.R_reads' HO_5.out).2.1); rintro e w' ⟨rfl, ⟨nd, rfl⟩⟩; (try first | exact ⟨rfl, _, World.drewN_drewN _ _ _⟩ | exact ⟨rfl, _, Eq.trans (World.drewN_drewN _ _ _) (congrArg (World.drewN _) (Nat.add_assoc _ _ _))⟩))))
                      go_meet
                      case rel => exact ⟨_, (decide (x8_1 > x7_47)), (by first | rfl | (simp; done) | (simp [*]; done)), H', ⟨by have := HK1.out; have := HJ23.out; have := HJ40.out; have := HJ47.out; have := HJ49.out; first | omega | exact Nat.le_refl _⟩, ⟨by (with_reducible repeat (first | apply Kd.R_alloc | apply Kd.R_drewN | apply Kd.R_drew)); exact HO_4.out⟩, ⟨by (with_reducible repeat (first | apply Kd.R_alloc | apply Kd.R_drewN | apply Kd.R_drew)); exact HO_5.out⟩, ⟨by (with_reducible repeat (first | apply Kd.V_alloc | apply Kd.V_drewN | apply Kd.V_drew)); exact HO_426000.out⟩, ⟨by (with_reducible repeat (first | apply Kd.V_alloc | apply Kd.V_drewN | apply Kd.V_drew)); exact HO_426001.out⟩, ⟨by (with_reducible repeat (first | apply Kd.V_alloc | apply Kd.V_drewN | apply Kd.V_drew)); exact HO_426002.out⟩, ⟨by (with_reducible repeat (first | refine blk_drewN ?_ _ | refine blk_drew ?_ | refine blk_alloc ?_ _)); exact BK425.out⟩, ⟨by repeat (first | (with_reducible first | exact HB.out | apply below_alloc | apply pw_below_drewN | apply below_drew1 | refine below_set ?_ GE425.out) | exact HB.out)⟩⟩
                     ·
                      rw [if_neg c60] at H
                      have c60b0 : decide (ji7 < t457) = false := decide_eq_false c60
                      clear c60
                      (first | rw [c60b0] | (simp only [i64_w, i32_w]; rw [c60b0]) | skip)
                      have H' := Aside0.mk H
                      clear H
                      go_wp2_with (first | (go_at_call 21; (with_reducible refine (abugidalaw08_sum.calls kj49 _ _ t440 x7_47 x8_1 t457 _ ?side1 ?side2 A59.out).mono ?_); (case side1 => repeat (first | exact (Kd.R_reads' HO_5.out).2.2 | (with_reducible refine Kd.C_alloc ?_ _) | (with_reducible refine Kd.C_drewN ?_ _) | (with_reducible refine Kd.C_drew ?_))); (case side2 => exact (Kd.R_reads' HO_5.out).2.1); rintro e w' ⟨rfl, ⟨nd, rfl⟩⟩; (try first | exact ⟨rfl, _, World.drewN_drewN _ _ _⟩ | exact ⟨rfl, _, Eq.trans (World.drewN_drewN _ _ _) (congrArg (World.drewN _) (Nat.add_assoc _ _ _))⟩)))
                      repeat (go_quiet (first | (go_at_call 21; (with_reducible refine (abugidalaw08_sum.calls kj49 _ _ t440 x7_47 x8_1 t457 _ ?side1 ?side2 A59.out).mono ?_); (case side1 => repeat (first | exact (Kd.R_reads' HO_5.out).2.2 | (with_reducible refine Kd.C_alloc ?_ _) | (with_reducible refine Kd.C_drewN ?_ _) | (with_reducible refine Kd.C_drew ?_))); (case side2 => exact (Kd.R_reads' HO_5.out).2.1); rintro e w' ⟨rfl, ⟨nd, rfl⟩⟩; (try first | exact ⟨rfl, _, World.drewN_drewN _ _ _⟩ | exact ⟨rfl, _, Eq.trans (World.drewN_drewN _ _ _) (congrArg (World.drewN _) (Nat.add_assoc _ _ _))⟩))); try go_wp2_with (first | (go_at_call 21; (with_reducible refine (abugidalaw08_sum.calls kj49 _ _ t440 x7_47 x8_1 t457 _ ?side1 ?side2 A59.out).mono ?_); (case side1 => repeat (first | exact (Kd.R_reads' HO_5.out).2.2 | (with_reducible refine Kd.C_alloc ?_ _) | (with_reducible refine Kd.C_drewN ?_ _) | (with_reducible refine Kd.C_drew ?_))); (case side2 => exact (Kd.R_reads' HO_5.out).2.1); rintro e w' ⟨rfl, ⟨nd, rfl⟩⟩; (try first | exact ⟨rfl, _, World.drewN_drewN _ _ _⟩ | exact ⟨rfl, _, Eq.trans (World.drewN_drewN _ _ _) (congrArg (World.drewN _) (Nat.add_assoc _ _ _))⟩))))
                      go_meet
                      case rel => exact ⟨_, (false), (by first | rfl | (simp; done) | (simp [*]; done)), H', ⟨by have := HK1.out; have := HJ23.out; have := HJ40.out; have := HJ47.out; have := HJ49.out; first | omega | exact Nat.le_refl _⟩, ⟨by (with_reducible repeat (first | apply Kd.R_alloc | apply Kd.R_drewN | apply Kd.R_drew)); exact HO_4.out⟩, ⟨by (with_reducible repeat (first | apply Kd.R_alloc | apply Kd.R_drewN | apply Kd.R_drew)); exact HO_5.out⟩, ⟨by (with_reducible repeat (first | apply Kd.V_alloc | apply Kd.V_drewN | apply Kd.V_drew)); exact HO_426000.out⟩, ⟨by (with_reducible repeat (first | apply Kd.V_alloc | apply Kd.V_drewN | apply Kd.V_drew)); exact HO_426001.out⟩, ⟨by (with_reducible repeat (first | apply Kd.V_alloc | apply Kd.V_drewN | apply Kd.V_drew)); exact HO_426002.out⟩, ⟨by (with_reducible repeat (first | refine blk_drewN ?_ _ | refine blk_drew ?_ | refine blk_alloc ?_ _)); exact BK425.out⟩, ⟨by repeat (first | (with_reducible first | exact HB.out | apply below_alloc | apply pw_below_drewN | apply below_drew1 | refine below_set ?_ GE425.out) | exact HB.out)⟩⟩
                   case rest =>
                    as_aux_lemma =>
                     clear HC58
                     try clear c2
                     try clear p2
                     try clear c3
                     try clear c4
                     try clear p4
                     try clear q4
                     try clear hx4
                     try clear qi4
                     try clear c5
                     try clear c6
                     try clear p6
                     try clear c8
                     try clear c8b0
                     try clear c8b1
                     try clear c8b2
                     try clear c23
                     try clear c23b0
                     try clear c25
                     try clear c25b0
                     try clear c25b1
                     try clear c26
                     try clear c26b0
                     try clear c26b1
                     try clear c27
                     try clear c27b0
                     try clear c27b1
                     try clear c28
                     try clear c28b0
                     try clear c29
                     try clear c29b0
                     try clear c31
                     try clear c31b0
                     try clear c32
                     try clear c32b0
                     try clear c33
                     try clear c33b0
                     try clear c34
                     try clear c34b0
                     try clear c35
                     try clear c35b0
                     try clear c37
                     try clear c37b0
                     try clear c38
                     try clear c38b0
                     try clear c39
                     try clear c39b0
                     try clear c40
                     try clear c42
                     try clear c42b0
                     try clear c43
                     try clear c43b0
                     try clear c44
                     try clear c44b0
                     try clear p44
                     try clear q44
                     try clear hx44
                     try clear qi44
                     try clear p45
                     try clear q45
                     try clear hx45
                     try clear c46
                     try clear c46b0
                     try clear c47
                     try clear c47b0
                     try clear c49
                     try clear c51
                     try clear c51b0
                     try clear c51b1
                     try clear c53
                     try clear c53b0
                     try clear c54
                     try clear c54b0
                     try clear c55
                     try clear c55b0
                     try clear c56
                     try clear c56b0
                     try clear c57
                     try clear c60
                     try clear c60b0
                     try clear hcz11_0
                     try clear hcz11_1
                     try clear hcz11_2
                     try clear hcz11_3
                     try clear hcz14_0
                     try clear hcz14_1
                     try clear hcz14_2
                     try clear hcz14_3
                     try clear hcz18_0
                     try clear hcz18_1
                     try clear hcz18_2
                     try clear hcz18_3
                     try clear hcz20_0
                     try clear hcz20_1
                     try clear hcz20_2
                     try clear hcz20_3
                     try clear hfz11_0
                     try clear hfz11_1
                     try clear hfz11_2
                     try clear hfz11_3
                     try clear hfz14_0
                     try clear hfz14_1
                     try clear hfz14_2
                     try clear hfz14_3
                     try clear hfz18_0
                     try clear hfz18_1
                     try clear hfz18_2
                     try clear hfz18_3
                     try clear hfz20_0
                     try clear hfz20_1
                     try clear hfz20_2
                     try clear hfz20_3
                     try clear hx443_0
                     try clear hx444_0
                     try clear hx445_0
                     try clear hx446_0
                     try clear hx447_0
                     try clear hx448_0
                     try clear hx449_0
                     try clear hx450_0
                     try clear hx451_0
                     try clear hx452_0
                     try clear hx453_0
                     try clear hx454_0
                     try clear hx455_0
                     try clear p2
                     try clear p4
                     try clear p44
                     try clear p443
                     try clear p444
                     try clear p445
                     try clear p446
                     try clear p447
                     try clear p448
                     try clear p449
                     try clear p45
                     try clear p450
                     try clear p451
                     try clear p452
                     try clear p453
                     try clear p454
                     try clear p455
                     try clear p6
                     try clear q4
                     try clear q44
                     try clear q443
                     try clear q444
                     try clear q445
                     try clear q446
                     try clear q447
                     try clear q448
                     try clear q449
                     try clear q45
                     try clear q450
                     try clear q451
                     try clear q452
                     try clear q453
                     try clear q454
                     try clear q455
                     obtain ⟨kq, x132_57, rfl, HA, HJ57, HO_4, HO_5, HO_426000, HO_426001, HO_426002, BK425, HB⟩ := hcut
                     cases kq with
                     | zero => exact absurd HA.out (by simp [abugidalaw08_BreaksGreedy.j5])
                     | succ kj57 =>
                      have H := HA.out
                      clear HA
                      simp only [abugidalaw08_BreaksGreedy.j5] at H
                      by_cases c61 : x132_57 = true
                      ·
                       subst c61
                       have H1 : (some false) = some r := by rw [if_pos rfl] at H; exact H
                       clear H
                       have H := H1
                       clear H1
                       obtain rfl := Option.some.inj H
                       go_wp2
                       repeat (go_quiet (fail); try go_wp2)
                       go_ret
                       exact ⟨by first | rfl | (simp [errW_none, errW_some] <;> rfl) | (simp only [← hji6, ← hji7]; first | rfl | (simp [errW_none, errW_some] <;> rfl)) | (simp [*, errW_none, errW_some] <;> rfl), by repeat (first | (with_reducible first | exact HB.out | apply below_alloc | apply pw_below_drewN | apply below_drew1 | refine below_set ?_ GE425.out) | exact HB.out)⟩
                      ·
                       replace c61 := Bool.eq_false_iff.mpr c61
                       subst c61
                       have H1 : (if x8_1 = (wrap64 ((t437.length : Int) - 1)) then (abugidalaw08_BreaksGreedy.j6 kj57 t426 t437 t440 ji7 x7_47 x8_1 true) else (if 0 ≤ x8_1 then (if x8_1 < (t440.length : Int) then (abugidalaw08_BreaksGreedy.j6 kj57 t426 t437 t440 ji7 x7_47 x8_1 (((rd_T44 t440 x8_1).f1) == 2)) else (none)) else (none))) = some r := by rw [if_neg (show ¬ (false = true) by decide)] at H; exact H
                       clear H
                       have H := H1
                       clear H1
                       have HC62 := Aside0.mk H
                       clear H
                       go_upto_region 22 with (fail)
                       repeat (go_quiet (fail); go_upto_region 22 with (fail))
                       go_cut [145] (fun v145 wc => ∃ (kq : Nat) (x145_61 : Bool), v145 = .bool x145_61 ∧ Aside0 (abugidalaw08_BreaksGreedy.j6 kq t426 t437 t440 ji7 x7_47 x8_1 x145_61 = some r) ∧ Aside0 (kq ≤ kj57) ∧ Aside0 (Kd.R (Kd.int .i64) 3 wc w.heap.size (fun _ => True) (.slice Ao21 t437.length co21) t437) ∧ Aside0 (Kd.R k44 44 wc w.heap.size (fun _ => True) (.slice Ao22 t440.length co22) t440) ∧ Aside0 (Kd.V (Kd.int .i64) 3 wc w.heap.size (fun k_ => some k_ ≠ ((.slice Ao21 t437.length co21) : Value).ownBlock ∧ some k_ ≠ ((.slice Ao22 t440.length co22) : Value).ownBlock ∧ k_ ≠ gb425) (.slice Ao13 t427.length co13) t427) ∧ Aside0 (Kd.V (Kd.int .i64) 3 wc w.heap.size (fun k_ => some k_ ≠ ((.slice Ao21 t437.length co21) : Value).ownBlock ∧ some k_ ≠ ((.slice Ao22 t440.length co22) : Value).ownBlock ∧ k_ ≠ gb425) (.slice Ao15 t430.length co15) t430) ∧ Aside0 (Kd.V Kd.bool 4 wc w.heap.size (fun k_ => some k_ ≠ ((.slice Ao21 t437.length co21) : Value).ownBlock ∧ some k_ ≠ ((.slice Ao22 t440.length co22) : Value).ownBlock ∧ k_ ≠ gb425) (.slice Ao16 t433.length co16) t433) ∧ Aside0 (wc.heap[gb425]? = some (.cells #[(.slice Ao13 t427.length co13), (.slice Ao15 t430.length co15), (.slice Ao16 t433.length co16), .int .i64 t436] 37 (0, 0))) ∧ Aside0 (Below w.heap.size w wc))
                       case first =>
                        as_aux_lemma =>
                         have H := HC62.out
                         clear HC62
                         by_cases c63 : x8_1 = (wrap64 ((t437.length : Int) - 1))
                         ·
                          rw [if_pos c63] at H
                          have c63b0 : (x8_1 == (wrap64 ((t437.length : Int) - 1))) = true := beq_iff_eq.mpr c63
                          have c63b1 : (x8_1 != (wrap64 ((t437.length : Int) - 1))) = false := bne_eq_false_iff_eq.mpr c63
                          clear c63
                          (first | rw [c63b0] | (simp only [i64_w, i32_w]; rw [c63b0]) | skip)
                          have H' := Aside0.mk H
                          clear H
                          go_wp2
                          repeat (go_quiet (fail); try go_wp2)
                          go_meet
                          case rel => exact ⟨_, (true), (by first | rfl | (simp; done) | (simp [*]; done)), H', ⟨by have := HK1.out; have := HJ23.out; have := HJ40.out; have := HJ47.out; have := HJ49.out; have := HJ57.out; first | omega | exact Nat.le_refl _⟩, ⟨by (with_reducible repeat (first | apply Kd.R_alloc | apply Kd.R_drewN | apply Kd.R_drew)); exact HO_4.out⟩, ⟨by (with_reducible repeat (first | apply Kd.R_alloc | apply Kd.R_drewN | apply Kd.R_drew)); exact HO_5.out⟩, ⟨by (with_reducible repeat (first | apply Kd.V_alloc | apply Kd.V_drewN | apply Kd.V_drew)); exact HO_426000.out⟩, ⟨by (with_reducible repeat (first | apply Kd.V_alloc | apply Kd.V_drewN | apply Kd.V_drew)); exact HO_426001.out⟩, ⟨by (with_reducible repeat (first | apply Kd.V_alloc | apply Kd.V_drewN | apply Kd.V_drew)); exact HO_426002.out⟩, ⟨by (with_reducible repeat (first | refine blk_drewN ?_ _ | refine blk_drew ?_ | refine blk_alloc ?_ _)); exact BK425.out⟩, ⟨by repeat (first | (with_reducible first | exact HB.out | apply below_alloc | apply pw_below_drewN | apply below_drew1 | refine below_set ?_ GE425.out) | exact HB.out)⟩⟩
                         ·
                          rw [if_neg c63] at H
                          have c63b0 : (x8_1 == (wrap64 ((t437.length : Int) - 1))) = false := beq_eq_false_iff_ne.mpr c63
                          have c63b1 : (x8_1 != (wrap64 ((t437.length : Int) - 1))) = true := bne_iff_ne.mpr c63
                          (first | rw [c63b0] | (simp only [i64_w, i32_w]; rw [c63b0]) | skip)
                          by_cases c64 : 0 ≤ x8_1
                          ·
                           rw [if_pos c64] at H
                           have c64b0 : decide (0 ≤ x8_1) = true := decide_eq_true c64
                           clear c64
                           by_cases c65 : x8_1 < (t440.length : Int)
                           ·
                            rw [if_pos c65] at H
                            have c65b0 : decide (x8_1 < (t440.length : Int)) = true := decide_eq_true c65
                            clear c65
                            have H' := Aside0.mk H
                            clear H
                            have p458 : 0 ≤ (x8_1 : Int) := of_decide_eq_true (by first | (with_reducible assumption) | assumption)
                            have q458 : x8_1 < (t440.length : Int) := of_decide_eq_true (by first | (with_reducible assumption) | assumption)
                            obtain ⟨ad458, e458, hx458_0, hx458_1, hx458_2⟩ := at_T44 (Kd.R_reads' HO_5.out).2.2 x8_1 p458 q458
                            cases e458
                            replace p458 := eq_true p458
                            replace q458 := eq_true q458
                            go_wp2
                            repeat (go_quiet (fail); try go_wp2)
                            go_meet
                            case rel => exact ⟨_, ((((rd_T44 t440 x8_1).f1) == 2)), (by first | rfl | (simp; done) | (simp [*]; done)), H', ⟨by have := HK1.out; have := HJ23.out; have := HJ40.out; have := HJ47.out; have := HJ49.out; have := HJ57.out; first | omega | exact Nat.le_refl _⟩, ⟨by (with_reducible repeat (first | apply Kd.R_alloc | apply Kd.R_drewN | apply Kd.R_drew)); exact HO_4.out⟩, ⟨by (with_reducible repeat (first | apply Kd.R_alloc | apply Kd.R_drewN | apply Kd.R_drew)); exact HO_5.out⟩, ⟨by (with_reducible repeat (first | apply Kd.V_alloc | apply Kd.V_drewN | apply Kd.V_drew)); exact HO_426000.out⟩, ⟨by (with_reducible repeat (first | apply Kd.V_alloc | apply Kd.V_drewN | apply Kd.V_drew)); exact HO_426001.out⟩, ⟨by (with_reducible repeat (first | apply Kd.V_alloc | apply Kd.V_drewN | apply Kd.V_drew)); exact HO_426002.out⟩, ⟨by (with_reducible repeat (first | refine blk_drewN ?_ _ | refine blk_drew ?_ | refine blk_alloc ?_ _)); exact BK425.out⟩, ⟨by repeat (first | (with_reducible first | exact HB.out | apply below_alloc | apply pw_below_drewN | apply below_drew1 | refine below_set ?_ GE425.out) | exact HB.out)⟩⟩
                           ·
                            rw [if_neg c65] at H
                            exact absurd H (by simp)
                          ·
                           rw [if_neg c64] at H
                           exact absurd H (by simp)
                       case rest =>
                        as_aux_lemma =>
                         clear HC62
                         try clear c2
                         try clear p2
                         try clear c3
                         try clear c4
                         try clear p4
                         try clear q4
                         try clear hx4
                         try clear qi4
                         try clear c5
                         try clear c6
                         try clear p6
                         try clear c8
                         try clear c8b0
                         try clear c8b1
                         try clear c8b2
                         try clear c23
                         try clear c23b0
                         try clear c25
                         try clear c25b0
                         try clear c25b1
                         try clear c26
                         try clear c26b0
                         try clear c26b1
                         try clear c27
                         try clear c27b0
                         try clear c27b1
                         try clear c28
                         try clear c28b0
                         try clear c29
                         try clear c29b0
                         try clear c31
                         try clear c31b0
                         try clear c32
                         try clear c32b0
                         try clear c33
                         try clear c33b0
                         try clear c34
                         try clear c34b0
                         try clear c35
                         try clear c35b0
                         try clear c37
                         try clear c37b0
                         try clear c38
                         try clear c38b0
                         try clear c39
                         try clear c39b0
                         try clear c40
                         try clear c42
                         try clear c42b0
                         try clear c43
                         try clear c43b0
                         try clear c44
                         try clear c44b0
                         try clear p44
                         try clear q44
                         try clear hx44
                         try clear qi44
                         try clear p45
                         try clear q45
                         try clear hx45
                         try clear c46
                         try clear c46b0
                         try clear c47
                         try clear c47b0
                         try clear c49
                         try clear c51
                         try clear c51b0
                         try clear c51b1
                         try clear c53
                         try clear c53b0
                         try clear c54
                         try clear c54b0
                         try clear c55
                         try clear c55b0
                         try clear c56
                         try clear c56b0
                         try clear c57
                         try clear c60
                         try clear c60b0
                         try clear c61
                         try clear c63
                         try clear c63b0
                         try clear c63b1
                         try clear c64
                         try clear c64b0
                         try clear p64
                         try clear c65
                         try clear c65b0
                         try clear hcz11_0
                         try clear hcz11_1
                         try clear hcz11_2
                         try clear hcz11_3
                         try clear hcz14_0
                         try clear hcz14_1
                         try clear hcz14_2
                         try clear hcz14_3
                         try clear hcz18_0
                         try clear hcz18_1
                         try clear hcz18_2
                         try clear hcz18_3
                         try clear hcz20_0
                         try clear hcz20_1
                         try clear hcz20_2
                         try clear hcz20_3
                         try clear hfz11_0
                         try clear hfz11_1
                         try clear hfz11_2
                         try clear hfz11_3
                         try clear hfz14_0
                         try clear hfz14_1
                         try clear hfz14_2
                         try clear hfz14_3
                         try clear hfz18_0
                         try clear hfz18_1
                         try clear hfz18_2
                         try clear hfz18_3
                         try clear hfz20_0
                         try clear hfz20_1
                         try clear hfz20_2
                         try clear hfz20_3
                         try clear hx443_0
                         try clear hx444_0
                         try clear hx445_0
                         try clear hx446_0
                         try clear hx447_0
                         try clear hx448_0
                         try clear hx449_0
                         try clear hx450_0
                         try clear hx451_0
                         try clear hx452_0
                         try clear hx453_0
                         try clear hx454_0
                         try clear hx455_0
                         try clear hx458_0
                         try clear hx458_1
                         try clear hx458_2
                         try clear p2
                         try clear p4
                         try clear p44
                         try clear p443
                         try clear p444
                         try clear p445
                         try clear p446
                         try clear p447
                         try clear p448
                         try clear p449
                         try clear p45
                         try clear p450
                         try clear p451
                         try clear p452
                         try clear p453
                         try clear p454
                         try clear p455
                         try clear p458
                         try clear p6
                         try clear q4
                         try clear q44
                         try clear q443
                         try clear q444
                         try clear q445
                         try clear q446
                         try clear q447
                         try clear q448
                         try clear q449
                         try clear q45
                         try clear q450
                         try clear q451
                         try clear q452
                         try clear q453
                         try clear q454
                         try clear q455
                         try clear q458
                         obtain ⟨kq, x145_61, rfl, HA, HJ61, HO_4, HO_5, HO_426000, HO_426001, HO_426002, BK425, HB⟩ := hcut
                         cases kq with
                         | zero => exact absurd HA.out (by simp [abugidalaw08_BreaksGreedy.j6])
                         | succ kj61 =>
                          have H := HA.out
                          clear HA
                          simp only [abugidalaw08_BreaksGreedy.j6] at H
                          by_cases c66 : x145_61 = true
                          ·
                           subst c66
                           have H1 : (abugidalaw08_BreaksGreedy.l0 kj61 t426 t437 t440 ji7 x7_47 (wrap64 (x8_1 + 1))) = some r := by rw [if_pos rfl] at H; exact H
                           clear H
                           have H := H1
                           clear H1
                           have H' := Aside0.mk H
                           clear H
                           go_wp2
                           repeat (go_quiet (fail); try go_wp2)
                           go_roundg kj61
                           case measure => have := HK1.out; have := HJ23.out; have := HJ40.out; have := HJ47.out; have := HJ49.out; have := HJ57.out; have := HJ61.out; omega
                           case rel => exact ⟨(x7_47), (wrap64 (x8_1 + 1)), (by first | rfl | (simp; done) | (simp [*]; done)), (by first | rfl | (simp; done) | (simp [*]; done)), H', ⟨by have := HK1.out; have := HJ23.out; have := HJ40.out; have := HJ47.out; have := HJ49.out; have := HJ57.out; have := HJ61.out; omega⟩, ⟨by (with_reducible repeat (first | apply Kd.R_alloc | apply Kd.R_drewN | apply Kd.R_drew)); exact HO_4.out⟩, ⟨by (with_reducible repeat (first | apply Kd.R_alloc | apply Kd.R_drewN | apply Kd.R_drew)); exact HO_5.out⟩, ⟨by (with_reducible repeat (first | apply Kd.V_alloc | apply Kd.V_drewN | apply Kd.V_drew)); exact HO_426000.out⟩, ⟨by (with_reducible repeat (first | apply Kd.V_alloc | apply Kd.V_drewN | apply Kd.V_drew)); exact HO_426001.out⟩, ⟨by (with_reducible repeat (first | apply Kd.V_alloc | apply Kd.V_drewN | apply Kd.V_drew)); exact HO_426002.out⟩, ⟨by (with_reducible repeat (first | refine blk_drewN ?_ _ | refine blk_drew ?_ | refine blk_alloc ?_ _)); exact BK425.out⟩, ⟨by repeat (first | (with_reducible first | exact HB.out | apply below_alloc | apply pw_below_drewN | apply below_drew1 | refine below_set ?_ GE425.out) | exact HB.out)⟩⟩
                          ·
                           replace c66 := Bool.eq_false_iff.mpr c66
                           subst c66
                           have H1 : (abugidalaw08_BreaksGreedy.l1 kj61 t426 t437 t440 ji7 x7_47 x8_1 (wrap64 (x8_1 + 1))) = some r := by rw [if_neg (show ¬ (false = true) by decide)] at H; exact H
                           clear H
                           have H := H1
                           clear H1
                           have H' := Aside0.mk H
                           clear H
                           go_wp2
                           repeat (go_quiet (fail); try go_wp2)
                           go_loopg [10] kj61 (fun kq v10 w' => ∃ (x10_8 : Int), v10 = .int .i64 x10_8 ∧ Aside0 (abugidalaw08_BreaksGreedy.l1 kq t426 t437 t440 ji7 x7_47 x8_1 x10_8 = some r) ∧ Aside0 (kq ≤ kj61) ∧ Aside0 (Kd.R (Kd.int .i64) 3 w' w.heap.size (fun _ => True) (.slice Ao21 t437.length co21) t437) ∧ Aside0 (Kd.R k44 44 w' w.heap.size (fun _ => True) (.slice Ao22 t440.length co22) t440) ∧ Aside0 (Kd.V (Kd.int .i64) 3 w' w.heap.size (fun k_ => some k_ ≠ ((.slice Ao21 t437.length co21) : Value).ownBlock ∧ some k_ ≠ ((.slice Ao22 t440.length co22) : Value).ownBlock ∧ k_ ≠ gb425) (.slice Ao13 t427.length co13) t427) ∧ Aside0 (Kd.V (Kd.int .i64) 3 w' w.heap.size (fun k_ => some k_ ≠ ((.slice Ao21 t437.length co21) : Value).ownBlock ∧ some k_ ≠ ((.slice Ao22 t440.length co22) : Value).ownBlock ∧ k_ ≠ gb425) (.slice Ao15 t430.length co15) t430) ∧ Aside0 (Kd.V Kd.bool 4 w' w.heap.size (fun k_ => some k_ ≠ ((.slice Ao21 t437.length co21) : Value).ownBlock ∧ some k_ ≠ ((.slice Ao22 t440.length co22) : Value).ownBlock ∧ k_ ≠ gb425) (.slice Ao16 t433.length co16) t433) ∧ Aside0 (w'.heap[gb425]? = some (.cells #[(.slice Ao13 t427.length co13), (.slice Ao15 t430.length co15), (.slice Ao16 t433.length co16), .int .i64 t436] 37 (0, 0))) ∧ Aside0 (Below w.heap.size w w'))
                           case atStart => exact ⟨(wrap64 (x8_1 + 1)), (by first | rfl | (simp; done) | (simp [*]; done)), H', ⟨Nat.le_refl _⟩, ⟨by (with_reducible repeat (first | apply Kd.R_alloc | apply Kd.R_drewN | apply Kd.R_drew)); exact HO_4.out⟩, ⟨by (with_reducible repeat (first | apply Kd.R_alloc | apply Kd.R_drewN | apply Kd.R_drew)); exact HO_5.out⟩, ⟨by (with_reducible repeat (first | apply Kd.V_alloc | apply Kd.V_drewN | apply Kd.V_drew)); exact HO_426000.out⟩, ⟨by (with_reducible repeat (first | apply Kd.V_alloc | apply Kd.V_drewN | apply Kd.V_drew)); exact HO_426001.out⟩, ⟨by (with_reducible repeat (first | apply Kd.V_alloc | apply Kd.V_drewN | apply Kd.V_drew)); exact HO_426002.out⟩, ⟨by (with_reducible repeat (first | refine blk_drewN ?_ _ | refine blk_drew ?_ | refine blk_alloc ?_ _)); exact BK425.out⟩, ⟨by repeat (first | (with_reducible first | exact HB.out | apply below_alloc | apply pw_below_drewN | apply below_drew1 | refine below_set ?_ GE425.out) | exact HB.out)⟩⟩
                           case round =>
                            clear H'
                            try clear c2
                            try clear p2
                            try clear c3
                            try clear c4
                            try clear p4
                            try clear q4
                            try clear hx4
                            try clear qi4
                            try clear c5
                            try clear c6
                            try clear p6
                            try clear c8
                            try clear c8b0
                            try clear c8b1
                            try clear c8b2
                            try clear c23
                            try clear c23b0
                            try clear c25
                            try clear c25b0
                            try clear c25b1
                            try clear c26
                            try clear c26b0
                            try clear c26b1
                            try clear c27
                            try clear c27b0
                            try clear c27b1
                            try clear c28
                            try clear c28b0
                            try clear c29
                            try clear c29b0
                            try clear c31
                            try clear c31b0
                            try clear c32
                            try clear c32b0
                            try clear c33
                            try clear c33b0
                            try clear c34
                            try clear c34b0
                            try clear c35
                            try clear c35b0
                            try clear c37
                            try clear c37b0
                            try clear c38
                            try clear c38b0
                            try clear c39
                            try clear c39b0
                            try clear c40
                            try clear c42
                            try clear c42b0
                            try clear c43
                            try clear c43b0
                            try clear c44
                            try clear c44b0
                            try clear p44
                            try clear q44
                            try clear hx44
                            try clear qi44
                            try clear p45
                            try clear q45
                            try clear hx45
                            try clear c46
                            try clear c46b0
                            try clear c47
                            try clear c47b0
                            try clear c49
                            try clear c51
                            try clear c51b0
                            try clear c51b1
                            try clear c53
                            try clear c53b0
                            try clear c54
                            try clear c54b0
                            try clear c55
                            try clear c55b0
                            try clear c56
                            try clear c56b0
                            try clear c57
                            try clear c60
                            try clear c60b0
                            try clear c61
                            try clear c63
                            try clear c63b0
                            try clear c63b1
                            try clear c64
                            try clear c64b0
                            try clear p64
                            try clear c65
                            try clear c65b0
                            try clear c66
                            try clear hcz11_0
                            try clear hcz11_1
                            try clear hcz11_2
                            try clear hcz11_3
                            try clear hcz14_0
                            try clear hcz14_1
                            try clear hcz14_2
                            try clear hcz14_3
                            try clear hcz18_0
                            try clear hcz18_1
                            try clear hcz18_2
                            try clear hcz18_3
                            try clear hcz20_0
                            try clear hcz20_1
                            try clear hcz20_2
                            try clear hcz20_3
                            try clear hfz11_0
                            try clear hfz11_1
                            try clear hfz11_2
                            try clear hfz11_3
                            try clear hfz14_0
                            try clear hfz14_1
                            try clear hfz14_2
                            try clear hfz14_3
                            try clear hfz18_0
                            try clear hfz18_1
                            try clear hfz18_2
                            try clear hfz18_3
                            try clear hfz20_0
                            try clear hfz20_1
                            try clear hfz20_2
                            try clear hfz20_3
                            try clear hx443_0
                            try clear hx444_0
                            try clear hx445_0
                            try clear hx446_0
                            try clear hx447_0
                            try clear hx448_0
                            try clear hx449_0
                            try clear hx450_0
                            try clear hx451_0
                            try clear hx452_0
                            try clear hx453_0
                            try clear hx454_0
                            try clear hx455_0
                            try clear hx458_0
                            try clear hx458_1
                            try clear hx458_2
                            try clear p2
                            try clear p4
                            try clear p44
                            try clear p443
                            try clear p444
                            try clear p445
                            try clear p446
                            try clear p447
                            try clear p448
                            try clear p449
                            try clear p45
                            try clear p450
                            try clear p451
                            try clear p452
                            try clear p453
                            try clear p454
                            try clear p455
                            try clear p458
                            try clear p6
                            try clear p64
                            try clear q4
                            try clear q44
                            try clear q443
                            try clear q444
                            try clear q445
                            try clear q446
                            try clear q447
                            try clear q448
                            try clear q449
                            try clear q45
                            try clear q450
                            try clear q451
                            try clear q452
                            try clear q453
                            try clear q454
                            try clear q455
                            try clear q458
                            obtain ⟨x10_8, rfl, HA, HK8, HO_4, HO_5, HO_426000, HO_426001, HO_426002, BK425, HB⟩ := hrel
                            cases gk with
                            | zero => exact absurd HA.out (by simp [abugidalaw08_BreaksGreedy.l1])
                            | succ k8 =>
                             have H := HA.out
                             clear HA
                             simp only [abugidalaw08_BreaksGreedy.l1] at H
                             have HC67 := Aside0.mk H
                             clear H
                             go_upto_region 24 with (fail)
                             repeat (go_quiet (fail); go_upto_region 24 with (fail))
                             go_cut [159] (fun v159 wc => ∃ (kq : Nat) (x159_66 : Bool), v159 = .bool x159_66 ∧ Aside0 (abugidalaw08_BreaksGreedy.j8 kq t426 t437 t440 ji7 x7_47 x8_1 x10_8 x159_66 = some r) ∧ Aside0 (kq ≤ k8) ∧ Aside0 (Kd.R (Kd.int .i64) 3 wc w.heap.size (fun _ => True) (.slice Ao21 t437.length co21) t437) ∧ Aside0 (Kd.R k44 44 wc w.heap.size (fun _ => True) (.slice Ao22 t440.length co22) t440) ∧ Aside0 (Kd.V (Kd.int .i64) 3 wc w.heap.size (fun k_ => some k_ ≠ ((.slice Ao21 t437.length co21) : Value).ownBlock ∧ some k_ ≠ ((.slice Ao22 t440.length co22) : Value).ownBlock ∧ k_ ≠ gb425) (.slice Ao13 t427.length co13) t427) ∧ Aside0 (Kd.V (Kd.int .i64) 3 wc w.heap.size (fun k_ => some k_ ≠ ((.slice Ao21 t437.length co21) : Value).ownBlock ∧ some k_ ≠ ((.slice Ao22 t440.length co22) : Value).ownBlock ∧ k_ ≠ gb425) (.slice Ao15 t430.length co15) t430) ∧ Aside0 (Kd.V Kd.bool 4 wc w.heap.size (fun k_ => some k_ ≠ ((.slice Ao21 t437.length co21) : Value).ownBlock ∧ some k_ ≠ ((.slice Ao22 t440.length co22) : Value).ownBlock ∧ k_ ≠ gb425) (.slice Ao16 t433.length co16) t433) ∧ Aside0 (wc.heap[gb425]? = some (.cells #[(.slice Ao13 t427.length co13), (.slice Ao15 t430.length co15), (.slice Ao16 t433.length co16), .int .i64 t436] 37 (0, 0))) ∧ Aside0 (Below w.heap.size w wc))
                             case first =>
                              as_aux_lemma =>
                               have H := HC67.out
                               clear HC67
                               by_cases c68 : x10_8 < (t437.length : Int)
                               ·
                                rw [if_pos c68] at H
                                have c68b0 : decide (x10_8 < (t437.length : Int)) = true := decide_eq_true c68
                                clear c68
                                (first | rw [c68b0] | (simp only [i64_w, i32_w]; rw [c68b0]) | skip)
                                replace H := Option.bind_eq_some_iff.mp H
                                obtain ⟨t459, A690, H⟩ := H
                                replace H : (abugidalaw08_BreaksGreedy.j8 k8 t426 t437 t440 ji7 x7_47 x8_1 x10_8 (decide (t459 ≤ ji7))) = some r := H
                                have A69 := Aside0.mk A690
                                clear A690
                                have H' := Aside0.mk H
                                clear H
                                go_wp2_with (first | (go_at_call 21; (with_reducible refine (abugidalaw08_sum.calls k8 _ _ t440 x7_47 x10_8 t459 _ ?side1 ?side2 A69.out).mono ?_); (case side1 => repeat (first | exact (Kd.R_reads' HO_5.out).2.2 | (with_reducible refine Kd.C_alloc ?_ _) | (with_reducible refine Kd.C_drewN ?_ _) | (with_reducible refine Kd.C_drew ?_))); (case side2 => exact (Kd.R_reads' HO_5.out).2.1); rintro e w' ⟨rfl, ⟨nd, rfl⟩⟩; (try first | exact ⟨rfl, _, World.drewN_drewN _ _ _⟩ | exact ⟨rfl, _, Eq.trans (World.drewN_drewN _ _ _) (congrArg (World.drewN _) (Nat.add_assoc _ _ _))⟩)))
                                repeat (go_quiet (first | (go_at_call 21; (with_reducible refine (abugidalaw08_sum.calls k8 _ _ t440 x7_47 x10_8 t459 _ ?side1 ?side2 A69.out).mono ?_); (case side1 => repeat (first | exact (Kd.R_reads' HO_5.out).2.2 | (with_reducible refine Kd.C_alloc ?_ _) | (with_reducible refine Kd.C_drewN ?_ _) | (with_reducible refine Kd.C_drew ?_))); (case side2 => exact (Kd.R_reads' HO_5.out).2.1); rintro e w' ⟨rfl, ⟨nd, rfl⟩⟩; (try first | exact ⟨rfl, _, World.drewN_drewN _ _ _⟩ | exact ⟨rfl, _, Eq.trans (World.drewN_drewN _ _ _) (congrArg (World.drewN _) (Nat.add_assoc _ _ _))⟩))); try go_wp2_with (first | (go_at_call 21; (with_reducible refine (abugidalaw08_sum.calls k8 _ _ t440 x7_47 x10_8 t459 _ ?side1 ?side2 A69.out).mono ?_); (case side1 => repeat (first | exact (Kd.R_reads' HO_5.out).2.2 | (with_reducible refine Kd.C_alloc ?_ _) | (with_reducible refine Kd.C_drewN ?_ _) | (with_reducible refine Kd.C_drew ?_))); (case side2 => exact (Kd.R_reads' HO_5.out).2.1); rintro e w' ⟨rfl, ⟨nd, rfl⟩⟩; (try first | exact ⟨rfl, _, World.drewN_drewN _ _ _⟩ | exact ⟨rfl, _, Eq.trans (World.drewN_drewN _ _ _) (congrArg (World.drewN _) (Nat.add_assoc _ _ _))⟩))))
                                go_meet
                                case rel => exact ⟨_, (decide (t459 ≤ ji7)), (by first | rfl | (simp; done) | (simp only [← hji7] <;> (first | rfl | simp)) | (simp [*]; done)), H', ⟨by have := HK1.out; have := HJ23.out; have := HJ40.out; have := HJ47.out; have := HJ49.out; have := HJ57.out; have := HJ61.out; have := HK8.out; first | omega | exact Nat.le_refl _⟩, ⟨by (with_reducible repeat (first | apply Kd.R_alloc | apply Kd.R_drewN | apply Kd.R_drew)); exact HO_4.out⟩, ⟨by (with_reducible repeat (first | apply Kd.R_alloc | apply Kd.R_drewN | apply Kd.R_drew)); exact HO_5.out⟩, ⟨by (with_reducible repeat (first | apply Kd.V_alloc | apply Kd.V_drewN | apply Kd.V_drew)); exact HO_426000.out⟩, ⟨by (with_reducible repeat (first | apply Kd.V_alloc | apply Kd.V_drewN | apply Kd.V_drew)); exact HO_426001.out⟩, ⟨by (with_reducible repeat (first | apply Kd.V_alloc | apply Kd.V_drewN | apply Kd.V_drew)); exact HO_426002.out⟩, ⟨by (with_reducible repeat (first | refine blk_drewN ?_ _ | refine blk_drew ?_ | refine blk_alloc ?_ _)); exact BK425.out⟩, ⟨by repeat (first | (with_reducible first | exact HB.out | apply below_alloc | apply pw_below_drewN | apply below_drew1 | refine below_set ?_ GE425.out) | exact HB.out)⟩⟩
                               ·
                                rw [if_neg c68] at H
                                have c68b0 : decide (x10_8 < (t437.length : Int)) = false := decide_eq_false c68
                                clear c68
                                (first | rw [c68b0] | (simp only [i64_w, i32_w]; rw [c68b0]) | skip)
                                have H' := Aside0.mk H
                                clear H
                                go_wp2
                                repeat (go_quiet (fail); try go_wp2)
                                go_meet
                                case rel => exact ⟨_, (false), (by first | rfl | (simp; done) | (simp [*]; done)), H', ⟨by have := HK1.out; have := HJ23.out; have := HJ40.out; have := HJ47.out; have := HJ49.out; have := HJ57.out; have := HJ61.out; have := HK8.out; first | omega | exact Nat.le_refl _⟩, ⟨by (with_reducible repeat (first | apply Kd.R_alloc | apply Kd.R_drewN | apply Kd.R_drew)); exact HO_4.out⟩, ⟨by (with_reducible repeat (first | apply Kd.R_alloc | apply Kd.R_drewN | apply Kd.R_drew)); exact HO_5.out⟩, ⟨by (with_reducible repeat (first | apply Kd.V_alloc | apply Kd.V_drewN | apply Kd.V_drew)); exact HO_426000.out⟩, ⟨by (with_reducible repeat (first | apply Kd.V_alloc | apply Kd.V_drewN | apply Kd.V_drew)); exact HO_426001.out⟩, ⟨by (with_reducible repeat (first | apply Kd.V_alloc | apply Kd.V_drewN | apply Kd.V_drew)); exact HO_426002.out⟩, ⟨by (with_reducible repeat (first | refine blk_drewN ?_ _ | refine blk_drew ?_ | refine blk_alloc ?_ _)); exact BK425.out⟩, ⟨by repeat (first | (with_reducible first | exact HB.out | apply below_alloc | apply pw_below_drewN | apply below_drew1 | refine below_set ?_ GE425.out) | exact HB.out)⟩⟩
                             case rest =>
                              as_aux_lemma =>
                               clear HC67
                               try clear c2
                               try clear p2
                               try clear c3
                               try clear c4
                               try clear p4
                               try clear q4
                               try clear hx4
                               try clear qi4
                               try clear c5
                               try clear c6
                               try clear p6
                               try clear c8
                               try clear c8b0
                               try clear c8b1
                               try clear c8b2
                               try clear c23
                               try clear c23b0
                               try clear c25
                               try clear c25b0
                               try clear c25b1
                               try clear c26
                               try clear c26b0
                               try clear c26b1
                               try clear c27
                               try clear c27b0
                               try clear c27b1
                               try clear c28
                               try clear c28b0
                               try clear c29
                               try clear c29b0
                               try clear c31
                               try clear c31b0
                               try clear c32
                               try clear c32b0
                               try clear c33
                               try clear c33b0
                               try clear c34
                               try clear c34b0
                               try clear c35
                               try clear c35b0
                               try clear c37
                               try clear c37b0
                               try clear c38
                               try clear c38b0
                               try clear c39
                               try clear c39b0
                               try clear c40
                               try clear c42
                               try clear c42b0
                               try clear c43
                               try clear c43b0
                               try clear c44
                               try clear c44b0
                               try clear p44
                               try clear q44
                               try clear hx44
                               try clear qi44
                               try clear p45
                               try clear q45
                               try clear hx45
                               try clear c46
                               try clear c46b0
                               try clear c47
                               try clear c47b0
                               try clear c49
                               try clear c51
                               try clear c51b0
                               try clear c51b1
                               try clear c53
                               try clear c53b0
                               try clear c54
                               try clear c54b0
                               try clear c55
                               try clear c55b0
                               try clear c56
                               try clear c56b0
                               try clear c57
                               try clear c60
                               try clear c60b0
                               try clear c61
                               try clear c63
                               try clear c63b0
                               try clear c63b1
                               try clear c64
                               try clear c64b0
                               try clear p64
                               try clear c65
                               try clear c65b0
                               try clear c66
                               try clear c68
                               try clear c68b0
                               try clear hcz11_0
                               try clear hcz11_1
                               try clear hcz11_2
                               try clear hcz11_3
                               try clear hcz14_0
                               try clear hcz14_1
                               try clear hcz14_2
                               try clear hcz14_3
                               try clear hcz18_0
                               try clear hcz18_1
                               try clear hcz18_2
                               try clear hcz18_3
                               try clear hcz20_0
                               try clear hcz20_1
                               try clear hcz20_2
                               try clear hcz20_3
                               try clear hfz11_0
                               try clear hfz11_1
                               try clear hfz11_2
                               try clear hfz11_3
                               try clear hfz14_0
                               try clear hfz14_1
                               try clear hfz14_2
                               try clear hfz14_3
                               try clear hfz18_0
                               try clear hfz18_1
                               try clear hfz18_2
                               try clear hfz18_3
                               try clear hfz20_0
                               try clear hfz20_1
                               try clear hfz20_2
                               try clear hfz20_3
                               try clear hx443_0
                               try clear hx444_0
                               try clear hx445_0
                               try clear hx446_0
                               try clear hx447_0
                               try clear hx448_0
                               try clear hx449_0
                               try clear hx450_0
                               try clear hx451_0
                               try clear hx452_0
                               try clear hx453_0
                               try clear hx454_0
                               try clear hx455_0
                               try clear hx458_0
                               try clear hx458_1
                               try clear hx458_2
                               try clear p2
                               try clear p4
                               try clear p44
                               try clear p443
                               try clear p444
                               try clear p445
                               try clear p446
                               try clear p447
                               try clear p448
                               try clear p449
                               try clear p45
                               try clear p450
                               try clear p451
                               try clear p452
                               try clear p453
                               try clear p454
                               try clear p455
                               try clear p458
                               try clear p6
                               try clear p64
                               try clear q4
                               try clear q44
                               try clear q443
                               try clear q444
                               try clear q445
                               try clear q446
                               try clear q447
                               try clear q448
                               try clear q449
                               try clear q45
                               try clear q450
                               try clear q451
                               try clear q452
                               try clear q453
                               try clear q454
                               try clear q455
                               try clear q458
                               obtain ⟨kq, x159_66, rfl, HA, HJ66, HO_4, HO_5, HO_426000, HO_426001, HO_426002, BK425, HB⟩ := hcut
                               cases kq with
                               | zero => exact absurd HA.out (by simp [abugidalaw08_BreaksGreedy.j8])
                               | succ kj66 =>
                                have H := HA.out
                                clear HA
                                simp only [abugidalaw08_BreaksGreedy.j8] at H
                                by_cases c70 : x159_66 = true
                                ·
                                 subst c70
                                 have H1 : (if 0 ≤ x10_8 then (if x10_8 < (t440.length : Int) then (if ((rd_T44 t440 x10_8).f1) = 1 then (abugidalaw08_BreaksGreedy.j9 kj66 t426 t437 t440 ji7 x7_47 x8_1 x10_8 true) else (if ((rd_T44 t440 x10_8).f1) = 2 then (abugidalaw08_BreaksGreedy.j9 kj66 t426 t437 t440 ji7 x7_47 x8_1 x10_8 true) else (abugidalaw08_BreaksGreedy.j9 kj66 t426 t437 t440 ji7 x7_47 x8_1 x10_8 (x10_8 == (wrap64 ((t437.length : Int) - 1)))))) else (none)) else (none)) = some r := by rw [if_pos rfl] at H; exact H
                                 clear H
                                 have H := H1
                                 clear H1
                                 have HC71 := Aside0.mk H
                                 clear H
                                 go_upto_region 26 with (fail)
                                 repeat (go_quiet (fail); go_upto_region 26 with (fail))
                                 go_cut [182] (fun v182 wc => ∃ (kq : Nat) (x182_70 : Bool), v182 = .bool x182_70 ∧ Aside0 (abugidalaw08_BreaksGreedy.j9 kq t426 t437 t440 ji7 x7_47 x8_1 x10_8 x182_70 = some r) ∧ Aside0 (kq ≤ kj66) ∧ Aside0 (Kd.R (Kd.int .i64) 3 wc w.heap.size (fun _ => True) (.slice Ao21 t437.length co21) t437) ∧ Aside0 (Kd.R k44 44 wc w.heap.size (fun _ => True) (.slice Ao22 t440.length co22) t440) ∧ Aside0 (Kd.V (Kd.int .i64) 3 wc w.heap.size (fun k_ => some k_ ≠ ((.slice Ao21 t437.length co21) : Value).ownBlock ∧ some k_ ≠ ((.slice Ao22 t440.length co22) : Value).ownBlock ∧ k_ ≠ gb425) (.slice Ao13 t427.length co13) t427) ∧ Aside0 (Kd.V (Kd.int .i64) 3 wc w.heap.size (fun k_ => some k_ ≠ ((.slice Ao21 t437.length co21) : Value).ownBlock ∧ some k_ ≠ ((.slice Ao22 t440.length co22) : Value).ownBlock ∧ k_ ≠ gb425) (.slice Ao15 t430.length co15) t430) ∧ Aside0 (Kd.V Kd.bool 4 wc w.heap.size (fun k_ => some k_ ≠ ((.slice Ao21 t437.length co21) : Value).ownBlock ∧ some k_ ≠ ((.slice Ao22 t440.length co22) : Value).ownBlock ∧ k_ ≠ gb425) (.slice Ao16 t433.length co16) t433) ∧ Aside0 (wc.heap[gb425]? = some (.cells #[(.slice Ao13 t427.length co13), (.slice Ao15 t430.length co15), (.slice Ao16 t433.length co16), .int .i64 t436] 37 (0, 0))) ∧ Aside0 (Below w.heap.size w wc))
                                 case first =>
                                  as_aux_lemma =>
                                   have H := HC71.out
                                   clear HC71
                                   by_cases c72 : 0 ≤ x10_8
                                   ·
                                    rw [if_pos c72] at H
                                    have c72b0 : decide (0 ≤ x10_8) = true := decide_eq_true c72
                                    clear c72
                                    (first | rw [c72b0] | (simp only [i64_w, i32_w]; rw [c72b0]) | skip)
                                    by_cases c73 : x10_8 < (t440.length : Int)
                                    ·
                                     rw [if_pos c73] at H
                                     have c73b0 : decide (x10_8 < (t440.length : Int)) = true := decide_eq_true c73
                                     clear c73
                                     by_cases c74 : ((rd_T44 t440 x10_8).f1) = 1
                                     ·
                                      rw [if_pos c74] at H
                                      have c74b0 : (((rd_T44 t440 x10_8).f1) == 1) = true := beq_iff_eq.mpr c74
                                      have c74b1 : (((rd_T44 t440 x10_8).f1) != 1) = false := bne_eq_false_iff_eq.mpr c74
                                      clear c74
                                      have H' := Aside0.mk H
                                      clear H
                                      have p460 : 0 ≤ (x10_8 : Int) := of_decide_eq_true (by first | (with_reducible assumption) | assumption)
                                      have q460 : x10_8 < (t440.length : Int) := of_decide_eq_true (by first | (with_reducible assumption) | assumption)
                                      obtain ⟨ad460, e460, hx460_0, hx460_1, hx460_2⟩ := at_T44 (Kd.R_reads' HO_5.out).2.2 x10_8 p460 q460
                                      cases e460
                                      replace p460 := eq_true p460
                                      replace q460 := eq_true q460
                                      go_wp2
                                      repeat (go_quiet (fail); try go_wp2)
                                      go_meet
                                      case rel => exact ⟨_, (true), (by first | rfl | (simp; done) | (simp [*]; done)), H', ⟨by have := HK1.out; have := HJ23.out; have := HJ40.out; have := HJ47.out; have := HJ49.out; have := HJ57.out; have := HJ61.out; have := HK8.out; have := HJ66.out; first | omega | exact Nat.le_refl _⟩, ⟨by (with_reducible repeat (first | apply Kd.R_alloc | apply Kd.R_drewN | apply Kd.R_drew)); exact HO_4.out⟩, ⟨by (with_reducible repeat (first | apply Kd.R_alloc | apply Kd.R_drewN | apply Kd.R_drew)); exact HO_5.out⟩, ⟨by (with_reducible repeat (first | apply Kd.V_alloc | apply Kd.V_drewN | apply Kd.V_drew)); exact HO_426000.out⟩, ⟨by (with_reducible repeat (first | apply Kd.V_alloc | apply Kd.V_drewN | apply Kd.V_drew)); exact HO_426001.out⟩, ⟨by (with_reducible repeat (first | apply Kd.V_alloc | apply Kd.V_drewN | apply Kd.V_drew)); exact HO_426002.out⟩, ⟨by (with_reducible repeat (first | refine blk_drewN ?_ _ | refine blk_drew ?_ | refine blk_alloc ?_ _)); exact BK425.out⟩, ⟨by repeat (first | (with_reducible first | exact HB.out | apply below_alloc | apply pw_below_drewN | apply below_drew1 | refine below_set ?_ GE425.out) | exact HB.out)⟩⟩
                                     ·
                                      rw [if_neg c74] at H
                                      have c74b0 : (((rd_T44 t440 x10_8).f1) == 1) = false := beq_eq_false_iff_ne.mpr c74
                                      have c74b1 : (((rd_T44 t440 x10_8).f1) != 1) = true := bne_iff_ne.mpr c74
                                      by_cases c75 : ((rd_T44 t440 x10_8).f1) = 2
                                      ·
                                       rw [if_pos c75] at H
                                       have c75b0 : (((rd_T44 t440 x10_8).f1) == 2) = true := beq_iff_eq.mpr c75
                                       have c75b1 : (((rd_T44 t440 x10_8).f1) != 2) = false := bne_eq_false_iff_eq.mpr c75
                                       clear c75
                                       have H' := Aside0.mk H
                                       clear H
                                       have p460 : 0 ≤ (x10_8 : Int) := of_decide_eq_true (by first | (with_reducible assumption) | assumption)
                                       have q460 : x10_8 < (t440.length : Int) := of_decide_eq_true (by first | (with_reducible assumption) | assumption)
                                       obtain ⟨ad460, e460, hx460_0, hx460_1, hx460_2⟩ := at_T44 (Kd.R_reads' HO_5.out).2.2 x10_8 p460 q460
                                       cases e460
                                       replace p460 := eq_true p460
                                       replace q460 := eq_true q460
                                       have p461 : 0 ≤ (x10_8 : Int) := of_decide_eq_true (by first | (with_reducible assumption) | assumption)
                                       have q461 : x10_8 < (t440.length : Int) := of_decide_eq_true (by first | (with_reducible assumption) | assumption)
                                       obtain ⟨ad461, e461, hx461_0, hx461_1, hx461_2⟩ := at_T44 (Kd.R_reads' HO_5.out).2.2 x10_8 p461 q461
                                       obtain rfl : ad460 = ad461 := (by injection e461)
                                       replace p461 := eq_true p461
                                       replace q461 := eq_true q461
                                       go_wp2
                                       repeat (go_quiet (fail); try go_wp2)
                                       go_meet
                                       case rel => exact ⟨_, (true), (by first | rfl | (simp; done) | (simp [*]; done)), H', ⟨by have := HK1.out; have := HJ23.out; have := HJ40.out; have := HJ47.out; have := HJ49.out; have := HJ57.out; have := HJ61.out; have := HK8.out; have := HJ66.out; first | omega | exact Nat.le_refl _⟩, ⟨by (with_reducible repeat (first | apply Kd.R_alloc | apply Kd.R_drewN | apply Kd.R_drew)); exact HO_4.out⟩, ⟨by (with_reducible repeat (first | apply Kd.R_alloc | apply Kd.R_drewN | apply Kd.R_drew)); exact HO_5.out⟩, ⟨by (with_reducible repeat (first | apply Kd.V_alloc | apply Kd.V_drewN | apply Kd.V_drew)); exact HO_426000.out⟩, ⟨by (with_reducible repeat (first | apply Kd.V_alloc | apply Kd.V_drewN | apply Kd.V_drew)); exact HO_426001.out⟩, ⟨by (with_reducible repeat (first | apply Kd.V_alloc | apply Kd.V_drewN | apply Kd.V_drew)); exact HO_426002.out⟩, ⟨by (with_reducible repeat (first | refine blk_drewN ?_ _ | refine blk_drew ?_ | refine blk_alloc ?_ _)); exact BK425.out⟩, ⟨by repeat (first | (with_reducible first | exact HB.out | apply below_alloc | apply pw_below_drewN | apply below_drew1 | refine below_set ?_ GE425.out) | exact HB.out)⟩⟩
                                      ·
                                       rw [if_neg c75] at H
                                       have c75b0 : (((rd_T44 t440 x10_8).f1) == 2) = false := beq_eq_false_iff_ne.mpr c75
                                       have c75b1 : (((rd_T44 t440 x10_8).f1) != 2) = true := bne_iff_ne.mpr c75
                                       have H' := Aside0.mk H
                                       clear H
                                       have p460 : 0 ≤ (x10_8 : Int) := of_decide_eq_true (by first | (with_reducible assumption) | assumption)
                                       have q460 : x10_8 < (t440.length : Int) := of_decide_eq_true (by first | (with_reducible assumption) | assumption)
                                       obtain ⟨ad460, e460, hx460_0, hx460_1, hx460_2⟩ := at_T44 (Kd.R_reads' HO_5.out).2.2 x10_8 p460 q460
                                       cases e460
                                       replace p460 := eq_true p460
                                       replace q460 := eq_true q460
                                       have p461 : 0 ≤ (x10_8 : Int) := of_decide_eq_true (by first | (with_reducible assumption) | assumption)
                                       have q461 : x10_8 < (t440.length : Int) := of_decide_eq_true (by first | (with_reducible assumption) | assumption)
                                       obtain ⟨ad461, e461, hx461_0, hx461_1, hx461_2⟩ := at_T44 (Kd.R_reads' HO_5.out).2.2 x10_8 p461 q461
                                       obtain rfl : ad460 = ad461 := (by injection e461)
                                       replace p461 := eq_true p461
                                       replace q461 := eq_true q461
                                       go_wp2
                                       repeat (go_quiet (fail); try go_wp2)
                                       go_meet
                                       case rel => exact ⟨_, ((x10_8 == (wrap64 ((t437.length : Int) - 1)))), (by first | rfl | (simp; done) | (simp [*]; done)), H', ⟨by have := HK1.out; have := HJ23.out; have := HJ40.out; have := HJ47.out; have := HJ49.out; have := HJ57.out; have := HJ61.out; have := HK8.out; have := HJ66.out; first | omega | exact Nat.le_refl _⟩, ⟨by (with_reducible repeat (first | apply Kd.R_alloc | apply Kd.R_drewN | apply Kd.R_drew)); exact HO_4.out⟩, ⟨by (with_reducible repeat (first | apply Kd.R_alloc | apply Kd.R_drewN | apply Kd.R_drew)); exact HO_5.out⟩, ⟨by (with_reducible repeat (first | apply Kd.V_alloc | apply Kd.V_drewN | apply Kd.V_drew)); exact HO_426000.out⟩, ⟨by (with_reducible repeat (first | apply Kd.V_alloc | apply Kd.V_drewN | apply Kd.V_drew)); exact HO_426001.out⟩, ⟨by (with_reducible repeat (first | apply Kd.V_alloc | apply Kd.V_drewN | apply Kd.V_drew)); exact HO_426002.out⟩, ⟨by (with_reducible repeat (first | refine blk_drewN ?_ _ | refine blk_drew ?_ | refine blk_alloc ?_ _)); exact BK425.out⟩, ⟨by repeat (first | (with_reducible first | exact HB.out | apply below_alloc | apply pw_below_drewN | apply below_drew1 | refine below_set ?_ GE425.out) | exact HB.out)⟩⟩
                                    ·
                                     rw [if_neg c73] at H
                                     exact absurd H (by simp)
                                   ·
                                    rw [if_neg c72] at H
                                    exact absurd H (by simp)
                                 case rest =>
                                  as_aux_lemma =>
                                   clear HC71
                                   try clear c2
                                   try clear p2
                                   try clear c3
                                   try clear c4
                                   try clear p4
                                   try clear q4
                                   try clear hx4
                                   try clear qi4
                                   try clear c5
                                   try clear c6
                                   try clear p6
                                   try clear c7
                                   try clear c8
                                   try clear c8b0
                                   try clear c8b1
                                   try clear c8b2
                                   try clear c23
                                   try clear c23b0
                                   try clear c25
                                   try clear c25b0
                                   try clear c25b1
                                   try clear c26
                                   try clear c26b0
                                   try clear c26b1
                                   try clear c27
                                   try clear c27b0
                                   try clear c27b1
                                   try clear c28
                                   try clear c28b0
                                   try clear c29
                                   try clear c29b0
                                   try clear c31
                                   try clear c31b0
                                   try clear c32
                                   try clear c32b0
                                   try clear c33
                                   try clear c33b0
                                   try clear c34
                                   try clear c34b0
                                   try clear c35
                                   try clear c35b0
                                   try clear c37
                                   try clear c37b0
                                   try clear c38
                                   try clear c38b0
                                   try clear c39
                                   try clear c39b0
                                   try clear c40
                                   try clear c42
                                   try clear c42b0
                                   try clear c43
                                   try clear c43b0
                                   try clear c44
                                   try clear c44b0
                                   try clear p44
                                   try clear q44
                                   try clear hx44
                                   try clear qi44
                                   try clear p45
                                   try clear q45
                                   try clear hx45
                                   try clear c46
                                   try clear c46b0
                                   try clear p46
                                   try clear q46
                                   try clear hx46
                                   try clear c47
                                   try clear c47b0
                                   try clear c49
                                   try clear c51
                                   try clear c51b0
                                   try clear c51b1
                                   try clear c53
                                   try clear c53b0
                                   try clear c54
                                   try clear c54b0
                                   try clear c55
                                   try clear c55b0
                                   try clear c56
                                   try clear c56b0
                                   try clear c57
                                   try clear c60
                                   try clear c60b0
                                   try clear c61
                                   try clear c63
                                   try clear c63b0
                                   try clear c63b1
                                   try clear c64
                                   try clear c64b0
                                   try clear p64
                                   try clear c65
                                   try clear c65b0
                                   try clear c66
                                   try clear c68
                                   try clear c68b0
                                   try clear c70
                                   try clear c72
                                   try clear c72b0
                                   try clear c73
                                   try clear c73b0
                                   try clear c74
                                   try clear c74b0
                                   try clear c74b1
                                   try clear c75
                                   try clear c75b0
                                   try clear c75b1
                                   try clear hcz11_0
                                   try clear hcz11_1
                                   try clear hcz11_2
                                   try clear hcz11_3
                                   try clear hcz14_0
                                   try clear hcz14_1
                                   try clear hcz14_2
                                   try clear hcz14_3
                                   try clear hcz18_0
                                   try clear hcz18_1
                                   try clear hcz18_2
                                   try clear hcz18_3
                                   try clear hcz20_0
                                   try clear hcz20_1
                                   try clear hcz20_2
                                   try clear hcz20_3
                                   try clear hfz11_0
                                   try clear hfz11_1
                                   try clear hfz11_2
                                   try clear hfz11_3
                                   try clear hfz14_0
                                   try clear hfz14_1
                                   try clear hfz14_2
                                   try clear hfz14_3
                                   try clear hfz18_0
                                   try clear hfz18_1
                                   try clear hfz18_2
                                   try clear hfz18_3
                                   try clear hfz20_0
                                   try clear hfz20_1
                                   try clear hfz20_2
                                   try clear hfz20_3
                                   try clear hx443_0
                                   try clear hx444_0
                                   try clear hx445_0
                                   try clear hx446_0
                                   try clear hx447_0
                                   try clear hx448_0
                                   try clear hx449_0
                                   try clear hx450_0
                                   try clear hx451_0
                                   try clear hx452_0
                                   try clear hx453_0
                                   try clear hx454_0
                                   try clear hx455_0
                                   try clear hx458_0
                                   try clear hx458_1
                                   try clear hx458_2
                                   try clear hx460_0
                                   try clear hx460_1
                                   try clear hx460_2
                                   try clear hx461_0
                                   try clear hx461_1
                                   try clear hx461_2
                                   try clear p2
                                   try clear p4
                                   try clear p44
                                   try clear p443
                                   try clear p444
                                   try clear p445
                                   try clear p446
                                   try clear p447
                                   try clear p448
                                   try clear p449
                                   try clear p45
                                   try clear p450
                                   try clear p451
                                   try clear p452
                                   try clear p453
                                   try clear p454
                                   try clear p455
                                   try clear p458
                                   try clear p460
                                   try clear p461
                                   try clear p6
                                   try clear p64
                                   try clear q4
                                   try clear q44
                                   try clear q443
                                   try clear q444
                                   try clear q445
                                   try clear q446
                                   try clear q447
                                   try clear q448
                                   try clear q449
                                   try clear q45
                                   try clear q450
                                   try clear q451
                                   try clear q452
                                   try clear q453
                                   try clear q454
                                   try clear q455
                                   try clear q458
                                   try clear q460
                                   try clear q461
                                   obtain ⟨kq, x182_70, rfl, HA, HJ70, HO_4, HO_5, HO_426000, HO_426001, HO_426002, BK425, HB⟩ := hcut
                                   cases kq with
                                   | zero => exact absurd HA.out (by simp [abugidalaw08_BreaksGreedy.j9])
                                   | succ kj70 =>
                                    have H := HA.out
                                    clear HA
                                    simp only [abugidalaw08_BreaksGreedy.j9] at H
                                    by_cases c76 : x182_70 = true
                                    ·
                                     subst c76
                                     have H1 : (some false) = some r := by rw [if_pos rfl] at H; exact H
                                     clear H
                                     have H := H1
                                     clear H1
                                     obtain rfl := Option.some.inj H
                                     go_wp2
                                     repeat (go_quiet (fail); try go_wp2)
                                     go_ret
                                     exact ⟨by first | rfl | (simp [errW_none, errW_some] <;> rfl) | (simp only [← hji6, ← hji7]; first | rfl | (simp [errW_none, errW_some] <;> rfl)) | (simp [*, errW_none, errW_some] <;> rfl), by repeat (first | (with_reducible first | exact HB.out | apply below_alloc | apply pw_below_drewN | apply below_drew1 | refine below_set ?_ GE425.out) | exact HB.out)⟩
                                    ·
                                     replace c76 := Bool.eq_false_iff.mpr c76
                                     subst c76
                                     have H1 : (if 0 ≤ x8_1 then (if x8_1 < (t440.length : Int) then (if ((rd_T44 t440 x8_1).f1) = 1 then (abugidalaw08_BreaksGreedy.l1 kj70 t426 t437 t440 ji7 x7_47 x8_1 (wrap64 (x10_8 + 1))) else (some false)) else (none)) else (none)) = some r := by rw [if_neg (show ¬ (false = true) by decide)] at H; exact H
                                     clear H
                                     have H := H1
                                     clear H1
                                     by_cases c77 : 0 ≤ x8_1
                                     ·
                                      rw [if_pos c77] at H
                                      have c77b0 : decide (0 ≤ x8_1) = true := decide_eq_true c77
                                      clear c77
                                      by_cases c78 : x8_1 < (t440.length : Int)
                                      ·
                                       rw [if_pos c78] at H
                                       have c78b0 : decide (x8_1 < (t440.length : Int)) = true := decide_eq_true c78
                                       clear c78
                                       by_cases c79 : ((rd_T44 t440 x8_1).f1) = 1
                                       ·
                                        rw [if_pos c79] at H
                                        have c79b0 : (((rd_T44 t440 x8_1).f1) == 1) = true := beq_iff_eq.mpr c79
                                        have c79b1 : (((rd_T44 t440 x8_1).f1) != 1) = false := bne_eq_false_iff_eq.mpr c79
                                        clear c79
                                        have H' := Aside0.mk H
                                        clear H
                                        have p462 : 0 ≤ (x8_1 : Int) := of_decide_eq_true (by first | (with_reducible assumption) | assumption)
                                        have q462 : x8_1 < (t440.length : Int) := of_decide_eq_true (by first | (with_reducible assumption) | assumption)
                                        obtain ⟨ad462, e462, hx462_0, hx462_1, hx462_2⟩ := at_T44 (Kd.R_reads' HO_5.out).2.2 x8_1 p462 q462
                                        cases e462
                                        replace p462 := eq_true p462
                                        replace q462 := eq_true q462
                                        go_wp2
                                        repeat (go_quiet (fail); try go_wp2)
                                        go_roundg kj70
                                        case measure => have := HK1.out; have := HJ23.out; have := HJ40.out; have := HJ47.out; have := HJ49.out; have := HJ57.out; have := HJ61.out; have := HK8.out; have := HJ66.out; have := HJ70.out; omega
                                        case rel => exact ⟨(wrap64 (x10_8 + 1)), (by first | rfl | (simp; done) | (simp [*]; done)), H', ⟨by have := HK1.out; have := HJ23.out; have := HJ40.out; have := HJ47.out; have := HJ49.out; have := HJ57.out; have := HJ61.out; have := HK8.out; have := HJ66.out; have := HJ70.out; omega⟩, ⟨by (with_reducible repeat (first | apply Kd.R_alloc | apply Kd.R_drewN | apply Kd.R_drew)); exact HO_4.out⟩, ⟨by (with_reducible repeat (first | apply Kd.R_alloc | apply Kd.R_drewN | apply Kd.R_drew)); exact HO_5.out⟩, ⟨by (with_reducible repeat (first | apply Kd.V_alloc | apply Kd.V_drewN | apply Kd.V_drew)); exact HO_426000.out⟩, ⟨by (with_reducible repeat (first | apply Kd.V_alloc | apply Kd.V_drewN | apply Kd.V_drew)); exact HO_426001.out⟩, ⟨by (with_reducible repeat (first | apply Kd.V_alloc | apply Kd.V_drewN | apply Kd.V_drew)); exact HO_426002.out⟩, ⟨by (with_reducible repeat (first | refine blk_drewN ?_ _ | refine blk_drew ?_ | refine blk_alloc ?_ _)); exact BK425.out⟩, ⟨by repeat (first | (with_reducible first | exact HB.out | apply below_alloc | apply pw_below_drewN | apply below_drew1 | refine below_set ?_ GE425.out) | exact HB.out)⟩⟩
                                       ·
                                        rw [if_neg c79] at H
                                        have c79b0 : (((rd_T44 t440 x8_1).f1) == 1) = false := beq_eq_false_iff_ne.mpr c79
                                        have c79b1 : (((rd_T44 t440 x8_1).f1) != 1) = true := bne_iff_ne.mpr c79
                                        obtain rfl := Option.some.inj H
                                        have p462 : 0 ≤ (x8_1 : Int) := of_decide_eq_true (by first | (with_reducible assumption) | assumption)
                                        have q462 : x8_1 < (t440.length : Int) := of_decide_eq_true (by first | (with_reducible assumption) | assumption)
                                        obtain ⟨ad462, e462, hx462_0, hx462_1, hx462_2⟩ := at_T44 (Kd.R_reads' HO_5.out).2.2 x8_1 p462 q462
                                        cases e462
                                        replace p462 := eq_true p462
                                        replace q462 := eq_true q462
                                        go_wp2
                                        repeat (go_quiet (fail); try go_wp2)
                                        go_ret
                                        exact ⟨by first | rfl | (simp [errW_none, errW_some] <;> rfl) | (simp only [← hji6, ← hji7]; first | rfl | (simp [errW_none, errW_some] <;> rfl)) | (simp [*, errW_none, errW_some] <;> rfl), by repeat (first | (with_reducible first | exact HB.out | apply below_alloc | apply pw_below_drewN | apply below_drew1 | refine below_set ?_ GE425.out) | exact HB.out)⟩
                                      ·
                                       rw [if_neg c78] at H
                                       exact absurd H (by simp)
                                     ·
                                      rw [if_neg c77] at H
                                      exact absurd H (by simp)
                                ·
                                 replace c70 := Bool.eq_false_iff.mpr c70
                                 subst c70
                                 have H1 : (abugidalaw08_BreaksGreedy.l0 kj66 t426 t437 t440 ji7 x7_47 (wrap64 (x8_1 + 1))) = some r := by rw [if_neg (show ¬ (false = true) by decide)] at H; exact H
                                 clear H
                                 have H := H1
                                 clear H1
                                 have H' := Aside0.mk H
                                 clear H
                                 go_wp2
                                 repeat (go_quiet (fail); try go_wp2)
                                 go_roundg kj66
                                 case measure => have := HK1.out; have := HJ23.out; have := HJ40.out; have := HJ47.out; have := HJ49.out; have := HJ57.out; have := HJ61.out; have := HK8.out; have := HJ66.out; omega
                                 case rel => exact ⟨(x7_47), (wrap64 (x8_1 + 1)), (by first | rfl | (simp; done) | (simp [*]; done)), (by first | rfl | (simp; done) | (simp [*]; done)), H', ⟨by have := HK1.out; have := HJ23.out; have := HJ40.out; have := HJ47.out; have := HJ49.out; have := HJ57.out; have := HJ61.out; have := HK8.out; have := HJ66.out; omega⟩, ⟨by (with_reducible repeat (first | apply Kd.R_alloc | apply Kd.R_drewN | apply Kd.R_drew)); exact HO_4.out⟩, ⟨by (with_reducible repeat (first | apply Kd.R_alloc | apply Kd.R_drewN | apply Kd.R_drew)); exact HO_5.out⟩, ⟨by (with_reducible repeat (first | apply Kd.V_alloc | apply Kd.V_drewN | apply Kd.V_drew)); exact HO_426000.out⟩, ⟨by (with_reducible repeat (first | apply Kd.V_alloc | apply Kd.V_drewN | apply Kd.V_drew)); exact HO_426001.out⟩, ⟨by (with_reducible repeat (first | apply Kd.V_alloc | apply Kd.V_drewN | apply Kd.V_drew)); exact HO_426002.out⟩, ⟨by (with_reducible repeat (first | refine blk_drewN ?_ _ | refine blk_drew ?_ | refine blk_alloc ?_ _)); exact BK425.out⟩, ⟨by repeat (first | (with_reducible first | exact HB.out | apply below_alloc | apply pw_below_drewN | apply below_drew1 | refine below_set ?_ GE425.out) | exact HB.out)⟩⟩
                  ·
                   replace c57 := Bool.eq_false_iff.mpr c57
                   subst c57
                   have H1 : (if 0 ≤ x8_1 then (if x8_1 < (t440.length : Int) then (if ((rd_T44 t440 x8_1).f1) = 2 then (some false) else (abugidalaw08_BreaksGreedy.l0 kj49 t426 t437 t440 ji7 x7_47 (wrap64 (x8_1 + 1)))) else (none)) else (none)) = some r := by rw [if_neg (show ¬ (false = true) by decide)] at H; exact H
                   clear H
                   have H := H1
                   clear H1
                   by_cases c80 : 0 ≤ x8_1
                   ·
                    rw [if_pos c80] at H
                    have c80b0 : decide (0 ≤ x8_1) = true := decide_eq_true c80
                    clear c80
                    by_cases c81 : x8_1 < (t440.length : Int)
                    ·
                     rw [if_pos c81] at H
                     have c81b0 : decide (x8_1 < (t440.length : Int)) = true := decide_eq_true c81
                     clear c81
                     by_cases c82 : ((rd_T44 t440 x8_1).f1) = 2
                     ·
                      rw [if_pos c82] at H
                      have c82b0 : (((rd_T44 t440 x8_1).f1) == 2) = true := beq_iff_eq.mpr c82
                      have c82b1 : (((rd_T44 t440 x8_1).f1) != 2) = false := bne_eq_false_iff_eq.mpr c82
                      clear c82
                      obtain rfl := Option.some.inj H
                      have p456 : 0 ≤ (x8_1 : Int) := of_decide_eq_true (by first | (with_reducible assumption) | assumption)
                      have q456 : x8_1 < (t440.length : Int) := of_decide_eq_true (by first | (with_reducible assumption) | assumption)
                      obtain ⟨ad456, e456, hx456_0, hx456_1, hx456_2⟩ := at_T44 (Kd.R_reads' HO_5.out).2.2 x8_1 p456 q456
                      cases e456
                      replace p456 := eq_true p456
                      replace q456 := eq_true q456
                      go_wp2
                      repeat (go_quiet (fail); try go_wp2)
                      go_ret
                      exact ⟨by first | rfl | (simp [errW_none, errW_some] <;> rfl) | (simp only [← hji6, ← hji7]; first | rfl | (simp [errW_none, errW_some] <;> rfl)) | (simp [*, errW_none, errW_some] <;> rfl), by repeat (first | (with_reducible first | exact HB.out | apply below_alloc | apply pw_below_drewN | apply below_drew1 | refine below_set ?_ GE425.out) | exact HB.out)⟩
                     ·
                      rw [if_neg c82] at H
                      have c82b0 : (((rd_T44 t440 x8_1).f1) == 2) = false := beq_eq_false_iff_ne.mpr c82
                      have c82b1 : (((rd_T44 t440 x8_1).f1) != 2) = true := bne_iff_ne.mpr c82
                      have H' := Aside0.mk H
                      clear H
                      have p456 : 0 ≤ (x8_1 : Int) := of_decide_eq_true (by first | (with_reducible assumption) | assumption)
                      have q456 : x8_1 < (t440.length : Int) := of_decide_eq_true (by first | (with_reducible assumption) | assumption)
                      obtain ⟨ad456, e456, hx456_0, hx456_1, hx456_2⟩ := at_T44 (Kd.R_reads' HO_5.out).2.2 x8_1 p456 q456
                      cases e456
                      replace p456 := eq_true p456
                      replace q456 := eq_true q456
                      go_wp2
                      repeat (go_quiet (fail); try go_wp2)
                      go_roundg kj49
                      case measure => have := HK1.out; have := HJ23.out; have := HJ40.out; have := HJ47.out; have := HJ49.out; omega
                      case rel => exact ⟨(x7_47), (wrap64 (x8_1 + 1)), (by first | rfl | (simp; done) | (simp [*]; done)), (by first | rfl | (simp; done) | (simp [*]; done)), H', ⟨by have := HK1.out; have := HJ23.out; have := HJ40.out; have := HJ47.out; have := HJ49.out; omega⟩, ⟨by (with_reducible repeat (first | apply Kd.R_alloc | apply Kd.R_drewN | apply Kd.R_drew)); exact HO_4.out⟩, ⟨by (with_reducible repeat (first | apply Kd.R_alloc | apply Kd.R_drewN | apply Kd.R_drew)); exact HO_5.out⟩, ⟨by (with_reducible repeat (first | apply Kd.V_alloc | apply Kd.V_drewN | apply Kd.V_drew)); exact HO_426000.out⟩, ⟨by (with_reducible repeat (first | apply Kd.V_alloc | apply Kd.V_drewN | apply Kd.V_drew)); exact HO_426001.out⟩, ⟨by (with_reducible repeat (first | apply Kd.V_alloc | apply Kd.V_drewN | apply Kd.V_drew)); exact HO_426002.out⟩, ⟨by (with_reducible repeat (first | refine blk_drewN ?_ _ | refine blk_drew ?_ | refine blk_alloc ?_ _)); exact BK425.out⟩, ⟨by repeat (first | (with_reducible first | exact HB.out | apply below_alloc | apply pw_below_drewN | apply below_drew1 | refine below_set ?_ GE425.out) | exact HB.out)⟩⟩
                    ·
                     rw [if_neg c81] at H
                     exact absurd H (by simp)
                   ·
                    rw [if_neg c80] at H
                    exact absurd H (by simp)
    ·
     rw [if_neg c23] at H
     have c23b0 : decide (x8_1 < (t437.length : Int)) = false := decide_eq_false c23
     clear c23
     obtain rfl := Option.some.inj H
     go_wp2
     repeat (go_quiet (fail); try go_wp2)
     go_ret
     exact ⟨by first | rfl | (simp [errW_none, errW_some] <;> rfl) | (simp only [← hji6, ← hji7]; first | rfl | (simp [errW_none, errW_some] <;> rfl)) | (simp [*, errW_none, errW_some] <;> rfl), by repeat (first | (with_reducible first | exact HB.out | apply below_alloc | apply pw_below_drewN | apply below_drew1 | refine below_set ?_ GE425.out) | exact HB.out)⟩
 ·
  rw [if_neg c8] at H
  have c8b0 : ((t437.length : Int) == (t440.length : Int)) = false := beq_eq_false_iff_ne.mpr c8
  have c8b1 : ((t437.length : Int) != (t440.length : Int)) = true := bne_iff_ne.mpr c8
  have c8b2 : (t437.length == t440.length) = false := by first | simpa using c8 | (simp at c8 ⊢; omega)
  obtain rfl := Option.some.inj H
  go_enter Try.func6, Try.ntmps6
  go_wp2_with (first | ((with_reducible refine gate_dst (N := 1) rfl ?_); (try (refine gate_guard (by rfl) ?_; dsimp only)); refine box_event ?hg (N := 1) ?hd (cs := #[.slice A0_0 l0_0.length c0_0, .slice A0_1 l0_1.length c0_1, .slice A0_2 l0_2.length c0_2, .int .i64 a0_3]) (t := 37) ?hr ?_; (case hd => rfl); (case hg => rfl); (case hr => first | (go_simp; done) | (go_simp; rfl)); intro gb425 hg w83 hbox hb; have n0_ := Aside0.mk (below_step (by repeat (first | (with_reducible first | exact HB.out | apply below_alloc | apply pw_below_drewN | apply below_drew1) | exact HB.out)) hb); have n1_ := Aside0.mk (hbox); have n2_ := Aside0.mk ((by rw [hg]; exact (below_size (by repeat (first | (with_reducible first | exact HB.out | apply below_alloc | apply pw_below_drewN | apply below_drew1) | exact HB.out))) : w.heap.size ≤ gb425)); have n3_ := Aside0.mk ((by rw [hg]; exact (below_size (by repeat (first | (with_reducible first | exact HB.out | apply below_alloc | apply pw_below_drewN | apply below_drew1) | exact HB.out))) : w.heap.size ≤ gb425)); clear HB; have HB := n0_; have BK425 := n1_; have GW425 := n2_; have GE425 := n3_; clear n0_ n1_ n2_ n3_; clear hb hbox hg) | (go_at_call 9; (with_reducible refine (abugidalaw08_sanity.calls k  t426 _ A2.out).mono ?_); rintro e w84 ⟨rfl, hb⟩; have n0_ := Aside0.mk (blk_below (g := gb425) (o := .cells #[.slice A0_0 l0_0.length c0_0, .slice A0_1 l0_1.length c0_1, .slice A0_2 l0_2.length c0_2, .int .i64 a0_3] 37 (0, 0)) (by (with_reducible repeat (first | refine blk_drewN ?_ _ | refine blk_drew ?_ | refine blk_alloc ?_ _)); exact BK425.out) hb); have n1_ := Aside0.mk (below_step (by repeat (first | (with_reducible first | exact HB.out | apply below_alloc | apply pw_below_drewN | apply below_drew1 | refine below_set ?_ GE425.out) | exact HB.out)) hb); clear BK425; clear HB; have BK425 := n0_; have HB := n1_; clear n0_ n1_; (try clear hb); (try clear hb2); (try clear hk); (try clear hi); have hcz85_0 : w84.cell? ⟨gb425, 0, none⟩ = some (.slice A0_0 l0_0.length c0_0) := (blk_cell BK425.out 0).trans rfl; have hcz85_1 : w84.cell? ⟨gb425, 1, none⟩ = some (.slice A0_1 l0_1.length c0_1) := (blk_cell BK425.out 1).trans rfl; have hcz85_2 : w84.cell? ⟨gb425, 2, none⟩ = some (.slice A0_2 l0_2.length c0_2) := (blk_cell BK425.out 2).trans rfl; have hcz85_3 : w84.cell? ⟨gb425, 3, none⟩ = some (.int .i64 a0_3) := (blk_cell BK425.out 3).trans rfl; have hfz85_0 := blk_frozen BK425.out 0; have hfz85_1 := blk_frozen BK425.out 1; have hfz85_2 := blk_frozen BK425.out 2; have hfz85_3 := blk_frozen BK425.out 3) | (go_at_call 17; (with_reducible refine (abugidalaw08_Line_cut.calls (fun k_ => k_ < w.heap.size) _ _ l0_0 (fun k_ => k_ < w.heap.size) _ _ l0_1 (fun k_ => k_ < w.heap.size) _ _ l0_2 a0_3 t427 t430 t433 t436 _ ?side1 ?side2 ?side3 A3.out).mono ?_); (case side1 => exact Kd.V_mk HC0_0.out (Kd.F_below (Kd.C_F (Kd.heap_int .i64) HR0_0.out) (by repeat (first | (with_reducible first | exact HB.out | apply below_alloc | apply pw_below_drewN | apply below_drew1 | refine below_set ?_ GE425.out) | exact HB.out)))); (case side2 => exact Kd.V_mk HC0_1.out (Kd.F_below (Kd.C_F (Kd.heap_int .i64) HR0_1.out) (by repeat (first | (with_reducible first | exact HB.out | apply below_alloc | apply pw_below_drewN | apply below_drew1 | refine below_set ?_ GE425.out) | exact HB.out)))); (case side3 => exact Kd.V_mk HC0_2.out (Kd.F_below (Kd.C_F Kd.heap_bool HR0_2.out) (by repeat (first | (with_reducible first | exact HB.out | apply below_alloc | apply pw_below_drewN | apply below_drew1 | refine below_set ?_ GE425.out) | exact HB.out)))); rintro e w86 ⟨v428, v431, v434, rfl, ho0, ho1, ho2, hb⟩; have n0_ := Aside0.mk (Kd.V_lower (Kd.V_mono (ok' := fun k_ => k_ ≠ gb425) ho0 (fun k_ hk_ => Or.elim hk_ (fun hs_ => Or.elim hs_ (fun hs_ => fun e_ => Nat.not_le.2 hs_ (by rw [e_]; exact GW425.out)) (fun hs_ => Or.elim hs_ (fun hs_ => fun e_ => Nat.not_le.2 hs_ (by rw [e_]; exact GW425.out)) (fun hs_ => fun e_ => Nat.not_le.2 hs_ (by rw [e_]; exact GW425.out)))) (fun hn_ => (Kd.freshB (g := gb425) (o := .cells #[.slice A0_0 l0_0.length c0_0, .slice A0_1 l0_1.length c0_1, .slice A0_2 l0_2.length c0_2, .int .i64 a0_3] 37 (0, 0)) (by (with_reducible repeat (first | refine blk_drewN ?_ _ | refine blk_drew ?_ | refine blk_alloc ?_ _)); exact BK425.out) k_ hn_)))) (below_size (by repeat (first | (with_reducible first | exact HB.out | apply below_alloc | apply pw_below_drewN | apply below_drew1 | refine below_set ?_ GE425.out) | exact HB.out)))); have n1_ := Aside0.mk (Kd.V_lower (Kd.V_mono (ok' := fun k_ => k_ ≠ gb425) ho1 (fun k_ hk_ => Or.elim hk_ (fun hs_ => Or.elim hs_ (fun hs_ => fun e_ => Nat.not_le.2 hs_ (by rw [e_]; exact GW425.out)) (fun hs_ => Or.elim hs_ (fun hs_ => fun e_ => Nat.not_le.2 hs_ (by rw [e_]; exact GW425.out)) (fun hs_ => fun e_ => Nat.not_le.2 hs_ (by rw [e_]; exact GW425.out)))) (fun hn_ => (Kd.freshB (g := gb425) (o := .cells #[.slice A0_0 l0_0.length c0_0, .slice A0_1 l0_1.length c0_1, .slice A0_2 l0_2.length c0_2, .int .i64 a0_3] 37 (0, 0)) (by (with_reducible repeat (first | refine blk_drewN ?_ _ | refine blk_drew ?_ | refine blk_alloc ?_ _)); exact BK425.out) k_ hn_)))) (below_size (by repeat (first | (with_reducible first | exact HB.out | apply below_alloc | apply pw_below_drewN | apply below_drew1 | refine below_set ?_ GE425.out) | exact HB.out)))); have n2_ := Aside0.mk (Kd.V_lower (Kd.V_mono (ok' := fun k_ => k_ ≠ gb425) ho2 (fun k_ hk_ => Or.elim hk_ (fun hs_ => Or.elim hs_ (fun hs_ => fun e_ => Nat.not_le.2 hs_ (by rw [e_]; exact GW425.out)) (fun hs_ => Or.elim hs_ (fun hs_ => fun e_ => Nat.not_le.2 hs_ (by rw [e_]; exact GW425.out)) (fun hs_ => fun e_ => Nat.not_le.2 hs_ (by rw [e_]; exact GW425.out)))) (fun hn_ => (Kd.freshB (g := gb425) (o := .cells #[.slice A0_0 l0_0.length c0_0, .slice A0_1 l0_1.length c0_1, .slice A0_2 l0_2.length c0_2, .int .i64 a0_3] 37 (0, 0)) (by (with_reducible repeat (first | refine blk_drewN ?_ _ | refine blk_drew ?_ | refine blk_alloc ?_ _)); exact BK425.out) k_ hn_)))) (below_size (by repeat (first | (with_reducible first | exact HB.out | apply below_alloc | apply pw_below_drewN | apply below_drew1 | refine below_set ?_ GE425.out) | exact HB.out)))); have n3_ := Aside0.mk (blk_below (g := gb425) (o := .cells #[.slice A0_0 l0_0.length c0_0, .slice A0_1 l0_1.length c0_1, .slice A0_2 l0_2.length c0_2, .int .i64 a0_3] 37 (0, 0)) (by (with_reducible repeat (first | refine blk_drewN ?_ _ | refine blk_drew ?_ | refine blk_alloc ?_ _)); exact BK425.out) hb); have n4_ := Aside0.mk (below_step (by repeat (first | (with_reducible first | exact HB.out | apply below_alloc | apply pw_below_drewN | apply below_drew1 | refine below_set ?_ GE425.out) | exact HB.out)) hb); clear BK425; clear HB; have HO429 := n0_; have HO432 := n1_; have HO435 := n2_; have BK425 := n3_; have HB := n4_; clear n0_ n1_ n2_ n3_ n4_; (try clear hb); (try clear hb2); (try clear hk); (try clear hi); (try clear ho0); (try clear ho1); (try clear ho2); obtain ⟨Ao87, co87, eo87⟩ := Kd.V_slice HO429.out; subst eo87; have hcz88_0 : w86.cell? ⟨gb425, 0, none⟩ = some (.slice A0_0 l0_0.length c0_0) := (blk_cell BK425.out 0).trans rfl; have hcz88_1 : w86.cell? ⟨gb425, 1, none⟩ = some (.slice A0_1 l0_1.length c0_1) := (blk_cell BK425.out 1).trans rfl; have hcz88_2 : w86.cell? ⟨gb425, 2, none⟩ = some (.slice A0_2 l0_2.length c0_2) := (blk_cell BK425.out 2).trans rfl; have hcz88_3 : w86.cell? ⟨gb425, 3, none⟩ = some (.int .i64 a0_3) := (blk_cell BK425.out 3).trans rfl; have hfz88_0 := blk_frozen BK425.out 0; have hfz88_1 := blk_frozen BK425.out 1; have hfz88_2 := blk_frozen BK425.out 2; have hfz88_3 := blk_frozen BK425.out 3; obtain ⟨Ao89, co89, eo89⟩ := Kd.V_slice HO432.out; subst eo89; obtain ⟨Ao90, co90, eo90⟩ := Kd.V_slice HO435.out; subst eo90) | (go_at_call 18; (with_reducible refine (breaks_Fill.calls k _ _ t427 _ _ t430 _ _ t433 t436 t437 _ ?side1 ?side2 ?side3 ?side4 ?side5 ?side6 A4.out).mono ?_); (case side1 => refine (Kd.V_reads' (e := 3) (base := w.heap.size) (ok := fun k_ => k_ ≠ gb425) (n := t427.length) (c := co87) ?_).2.2; exact (by (with_reducible repeat (first | apply Kd.V_alloc | apply Kd.V_drewN | apply Kd.V_drew)); exact (Kd.V_mono (Kd.V_far (p := ⟨gb425, 3, none⟩) (Kd.V_far (p := ⟨gb425, 2, none⟩) (Kd.V_far (p := ⟨gb425, 1, none⟩) (Kd.V_far (p := ⟨gb425, 0, none⟩) (Kd.V_mono HO429.out (fun k_ hk => (⟨hk, hk⟩ : _ ∧ k_ ≠ gb425))) (fun _ hk => hk.2) (.slice Ao87 t427.length co87)) (fun _ hk => hk.2) (.slice Ao89 t430.length co89)) (fun _ hk => hk.2) (.slice Ao90 t433.length co90)) (fun _ hk => hk.2) (.int .i64 t436)) (fun _ h_ => h_.1)))); (case side2 => exact (Kd.V_reads' HO429.out).2.1); (case side3 => refine (Kd.V_reads' (e := 3) (base := w.heap.size) (ok := fun k_ => k_ ≠ gb425) (n := t430.length) (c := co89) ?_).2.2; exact (by (with_reducible repeat (first | apply Kd.V_alloc | apply Kd.V_drewN | apply Kd.V_drew)); exact (Kd.V_mono (Kd.V_far (p := ⟨gb425, 3, none⟩) (Kd.V_far (p := ⟨gb425, 2, none⟩) (Kd.V_far (p := ⟨gb425, 1, none⟩) (Kd.V_far (p := ⟨gb425, 0, none⟩) (Kd.V_mono HO432.out (fun k_ hk => (⟨hk, hk⟩ : _ ∧ k_ ≠ gb425))) (fun _ hk => hk.2) (.slice Ao87 t427.length co87)) (fun _ hk => hk.2) (.slice Ao89 t430.length co89)) (fun _ hk => hk.2) (.slice Ao90 t433.length co90)) (fun _ hk => hk.2) (.int .i64 t436)) (fun _ h_ => h_.1)))); (case side4 => exact (Kd.V_reads' HO432.out).2.1); (case side5 => refine (Kd.V_reads' (e := 4) (base := w.heap.size) (ok := fun k_ => k_ ≠ gb425) (n := t433.length) (c := co90) ?_).2.2; exact (by (with_reducible repeat (first | apply Kd.V_alloc | apply Kd.V_drewN | apply Kd.V_drew)); exact (Kd.V_mono (Kd.V_far (p := ⟨gb425, 3, none⟩) (Kd.V_far (p := ⟨gb425, 2, none⟩) (Kd.V_far (p := ⟨gb425, 1, none⟩) (Kd.V_far (p := ⟨gb425, 0, none⟩) (Kd.V_mono HO435.out (fun k_ hk => (⟨hk, hk⟩ : _ ∧ k_ ≠ gb425))) (fun _ hk => hk.2) (.slice Ao87 t427.length co87)) (fun _ hk => hk.2) (.slice Ao89 t430.length co89)) (fun _ hk => hk.2) (.slice Ao90 t433.length co90)) (fun _ hk => hk.2) (.int .i64 t436)) (fun _ h_ => h_.1)))); (case side6 => exact (Kd.V_reads' HO435.out).2.1); rintro e w91 ⟨v438, rfl, ho0, hb⟩; have n0_ := Aside0.mk (Kd.V_elder' (by (with_reducible repeat (first | apply Kd.V_alloc | apply Kd.V_drewN | apply Kd.V_drew)); exact (Kd.V_mono (Kd.V_far (p := ⟨gb425, 3, none⟩) (Kd.V_far (p := ⟨gb425, 2, none⟩) (Kd.V_far (p := ⟨gb425, 1, none⟩) (Kd.V_far (p := ⟨gb425, 0, none⟩) (Kd.V_mono HO429.out (fun k_ hk => (⟨hk, hk⟩ : _ ∧ k_ ≠ gb425))) (fun _ hk => hk.2) (.slice Ao87 t427.length co87)) (fun _ hk => hk.2) (.slice Ao89 t430.length co89)) (fun _ hk => hk.2) (.slice Ao90 t433.length co90)) (fun _ hk => hk.2) (.int .i64 t436)) (fun _ h_ => h_.1))) (Kd.R_base ho0) hb); have n1_ := Aside0.mk (Kd.V_elder' (by (with_reducible repeat (first | apply Kd.V_alloc | apply Kd.V_drewN | apply Kd.V_drew)); exact (Kd.V_mono (Kd.V_far (p := ⟨gb425, 3, none⟩) (Kd.V_far (p := ⟨gb425, 2, none⟩) (Kd.V_far (p := ⟨gb425, 1, none⟩) (Kd.V_far (p := ⟨gb425, 0, none⟩) (Kd.V_mono HO432.out (fun k_ hk => (⟨hk, hk⟩ : _ ∧ k_ ≠ gb425))) (fun _ hk => hk.2) (.slice Ao87 t427.length co87)) (fun _ hk => hk.2) (.slice Ao89 t430.length co89)) (fun _ hk => hk.2) (.slice Ao90 t433.length co90)) (fun _ hk => hk.2) (.int .i64 t436)) (fun _ h_ => h_.1))) (Kd.R_base ho0) hb); have n2_ := Aside0.mk (Kd.V_elder' (by (with_reducible repeat (first | apply Kd.V_alloc | apply Kd.V_drewN | apply Kd.V_drew)); exact (Kd.V_mono (Kd.V_far (p := ⟨gb425, 3, none⟩) (Kd.V_far (p := ⟨gb425, 2, none⟩) (Kd.V_far (p := ⟨gb425, 1, none⟩) (Kd.V_far (p := ⟨gb425, 0, none⟩) (Kd.V_mono HO435.out (fun k_ hk => (⟨hk, hk⟩ : _ ∧ k_ ≠ gb425))) (fun _ hk => hk.2) (.slice Ao87 t427.length co87)) (fun _ hk => hk.2) (.slice Ao89 t430.length co89)) (fun _ hk => hk.2) (.slice Ao90 t433.length co90)) (fun _ hk => hk.2) (.int .i64 t436)) (fun _ h_ => h_.1))) (Kd.R_base ho0) hb); have n3_ := Aside0.mk (Kd.R_lower ho0 (below_size (by repeat (first | (with_reducible first | exact HB.out | apply below_alloc | apply pw_below_drewN | apply below_drew1 | refine below_set ?_ GE425.out) | exact HB.out)))); have n4_ := Aside0.mk (blk_below (g := gb425) (o := .cells #[.slice Ao87 t427.length co87, .slice Ao89 t430.length co89, .slice Ao90 t433.length co90, .int .i64 t436] 37 (0, 0)) (by (with_reducible repeat (first | refine blk_drewN ?_ _ | refine blk_drew ?_ | refine blk_alloc ?_ _)); refine blk_put (cs := #[.slice Ao87 t427.length co87, .slice Ao89 t430.length co89, .slice Ao90 t433.length co90, .int .i64 a0_3]) ?_ 3 _ rfl; (with_reducible repeat (first | refine blk_drewN ?_ _ | refine blk_drew ?_ | refine blk_alloc ?_ _)); refine blk_put (cs := #[.slice Ao87 t427.length co87, .slice Ao89 t430.length co89, .slice A0_2 l0_2.length c0_2, .int .i64 a0_3]) ?_ 2 _ rfl; (with_reducible repeat (first | refine blk_drewN ?_ _ | refine blk_drew ?_ | refine blk_alloc ?_ _)); refine blk_put (cs := #[.slice Ao87 t427.length co87, .slice A0_1 l0_1.length c0_1, .slice A0_2 l0_2.length c0_2, .int .i64 a0_3]) ?_ 1 _ rfl; (with_reducible repeat (first | refine blk_drewN ?_ _ | refine blk_drew ?_ | refine blk_alloc ?_ _)); refine blk_put (cs := #[.slice A0_0 l0_0.length c0_0, .slice A0_1 l0_1.length c0_1, .slice A0_2 l0_2.length c0_2, .int .i64 a0_3]) ?_ 0 _ rfl; (with_reducible repeat (first | refine blk_drewN ?_ _ | refine blk_drew ?_ | refine blk_alloc ?_ _)); exact BK425.out) hb); have n5_ := Aside0.mk (below_step (by repeat (first | (with_reducible first | exact HB.out | apply below_alloc | apply pw_below_drewN | apply below_drew1 | refine below_set ?_ GE425.out) | exact HB.out)) hb); clear HO429; clear HO432; clear HO435; clear BK425; clear HB; have HO429 := n0_; have HO432 := n1_; have HO435 := n2_; have HO439 := n3_; have BK425 := n4_; have HB := n5_; clear n0_ n1_ n2_ n3_ n4_ n5_; (try clear hb); (try clear hb2); (try clear hk); (try clear hi); (try clear ho0); have hcz92_0 : w91.cell? ⟨gb425, 0, none⟩ = some (.slice Ao87 t427.length co87) := (blk_cell BK425.out 0).trans rfl; have hcz92_1 : w91.cell? ⟨gb425, 1, none⟩ = some (.slice Ao89 t430.length co89) := (blk_cell BK425.out 1).trans rfl; have hcz92_2 : w91.cell? ⟨gb425, 2, none⟩ = some (.slice Ao90 t433.length co90) := (blk_cell BK425.out 2).trans rfl; have hcz92_3 : w91.cell? ⟨gb425, 3, none⟩ = some (.int .i64 t436) := (blk_cell BK425.out 3).trans rfl; have hfz92_0 := blk_frozen BK425.out 0; have hfz92_1 := blk_frozen BK425.out 1; have hfz92_2 := blk_frozen BK425.out 2; have hfz92_3 := blk_frozen BK425.out 3) | (go_at_call 20; (with_reducible refine (abugidaref08_Elements.calls k _ _ t427 _ _ t430 _ _ t433 t440 _ ?side1 ?side2 ?side3 ?side4 ?side5 ?side6 A5.out).mono ?_); (case side1 => repeat (first | exact (Kd.V_reads' HO429.out).2.2 | (with_reducible refine Kd.C_alloc ?_ _) | (with_reducible refine Kd.C_drewN ?_ _) | (with_reducible refine Kd.C_drew ?_))); (case side2 => exact (Kd.V_reads' HO429.out).2.1); (case side3 => repeat (first | exact (Kd.V_reads' HO432.out).2.2 | (with_reducible refine Kd.C_alloc ?_ _) | (with_reducible refine Kd.C_drewN ?_ _) | (with_reducible refine Kd.C_drew ?_))); (case side4 => exact (Kd.V_reads' HO432.out).2.1); (case side5 => repeat (first | exact (Kd.V_reads' HO435.out).2.2 | (with_reducible refine Kd.C_alloc ?_ _) | (with_reducible refine Kd.C_drewN ?_ _) | (with_reducible refine Kd.C_drew ?_))); (case side6 => exact (Kd.V_reads' HO435.out).2.1); rintro e w93 ⟨v441, rfl, ho0, hb⟩; have n0_ := Aside0.mk (Kd.V_elder' (by (with_reducible repeat (first | apply Kd.V_alloc | apply Kd.V_drewN | apply Kd.V_drew)); exact HO429.out) (Kd.R_base ho0) hb); have n1_ := Aside0.mk (Kd.V_elder' (by (with_reducible repeat (first | apply Kd.V_alloc | apply Kd.V_drewN | apply Kd.V_drew)); exact HO432.out) (Kd.R_base ho0) hb); have n2_ := Aside0.mk (Kd.V_elder' (by (with_reducible repeat (first | apply Kd.V_alloc | apply Kd.V_drewN | apply Kd.V_drew)); exact HO435.out) (Kd.R_base ho0) hb); have n3_ := Aside0.mk (Kd.R_below (by (with_reducible repeat (first | apply Kd.R_alloc | apply Kd.R_drewN | apply Kd.R_drew)); exact HO439.out) hb); have n4_ := Aside0.mk (Kd.R_lower ho0 (below_size (by repeat (first | (with_reducible first | exact HB.out | apply below_alloc | apply pw_below_drewN | apply below_drew1 | refine below_set ?_ GE425.out) | exact HB.out)))); have n5_ := Aside0.mk (blk_below (g := gb425) (o := .cells #[.slice Ao87 t427.length co87, .slice Ao89 t430.length co89, .slice Ao90 t433.length co90, .int .i64 t436] 37 (0, 0)) (by (with_reducible repeat (first | refine blk_drewN ?_ _ | refine blk_drew ?_ | refine blk_alloc ?_ _)); exact BK425.out) hb); have n6_ := Aside0.mk (below_step (by repeat (first | (with_reducible first | exact HB.out | apply below_alloc | apply pw_below_drewN | apply below_drew1 | refine below_set ?_ GE425.out) | exact HB.out)) hb); clear HO429; clear HO432; clear HO435; clear HO439; clear BK425; clear HB; have HO429 := n0_; have HO432 := n1_; have HO435 := n2_; have HO439 := n3_; have HO442 := n4_; have BK425 := n5_; have HB := n6_; clear n0_ n1_ n2_ n3_ n4_ n5_ n6_; (try clear hb); (try clear hb2); (try clear hk); (try clear hi); (try clear ho0); have hcz94_0 : w93.cell? ⟨gb425, 0, none⟩ = some (.slice Ao87 t427.length co87) := (blk_cell BK425.out 0).trans rfl; have hcz94_1 : w93.cell? ⟨gb425, 1, none⟩ = some (.slice Ao89 t430.length co89) := (blk_cell BK425.out 1).trans rfl; have hcz94_2 : w93.cell? ⟨gb425, 2, none⟩ = some (.slice Ao90 t433.length co90) := (blk_cell BK425.out 2).trans rfl; have hcz94_3 : w93.cell? ⟨gb425, 3, none⟩ = some (.int .i64 t436) := (blk_cell BK425.out 3).trans rfl; have hfz94_0 := blk_frozen BK425.out 0; have hfz94_1 := blk_frozen BK425.out 1; have hfz94_2 := blk_frozen BK425.out 2; have hfz94_3 := blk_frozen BK425.out 3; obtain ⟨Ao95, co95, eo95⟩ := Kd.R_slice HO439.out; subst eo95; obtain ⟨Ao96, co96, eo96⟩ := Kd.R_slice HO442.out; subst eo96))
  repeat (go_quiet (fail); try go_wp2_with (first | ((with_reducible refine gate_dst (N := 1) rfl ?_); (try (refine gate_guard (by rfl) ?_; dsimp only)); refine box_event ?hg (N := 1) ?hd (cs := #[.slice A0_0 l0_0.length c0_0, .slice A0_1 l0_1.length c0_1, .slice A0_2 l0_2.length c0_2, .int .i64 a0_3]) (t := 37) ?hr ?_; (case hd => rfl); (case hg => rfl); (case hr => first | (go_simp; done) | (go_simp; rfl)); intro gb425 hg w83 hbox hb; have n0_ := Aside0.mk (below_step (by repeat (first | (with_reducible first | exact HB.out | apply below_alloc | apply pw_below_drewN | apply below_drew1) | exact HB.out)) hb); have n1_ := Aside0.mk (hbox); have n2_ := Aside0.mk ((by rw [hg]; exact (below_size (by repeat (first | (with_reducible first | exact HB.out | apply below_alloc | apply pw_below_drewN | apply below_drew1) | exact HB.out))) : w.heap.size ≤ gb425)); have n3_ := Aside0.mk ((by rw [hg]; exact (below_size (by repeat (first | (with_reducible first | exact HB.out | apply below_alloc | apply pw_below_drewN | apply below_drew1) | exact HB.out))) : w.heap.size ≤ gb425)); clear HB; have HB := n0_; have BK425 := n1_; have GW425 := n2_; have GE425 := n3_; clear n0_ n1_ n2_ n3_; clear hb hbox hg) | (go_at_call 9; (with_reducible refine (abugidalaw08_sanity.calls k  t426 _ A2.out).mono ?_); rintro e w84 ⟨rfl, hb⟩; have n0_ := Aside0.mk (blk_below (g := gb425) (o := .cells #[.slice A0_0 l0_0.length c0_0, .slice A0_1 l0_1.length c0_1, .slice A0_2 l0_2.length c0_2, .int .i64 a0_3] 37 (0, 0)) (by (with_reducible repeat (first | refine blk_drewN ?_ _ | refine blk_drew ?_ | refine blk_alloc ?_ _)); exact BK425.out) hb); have n1_ := Aside0.mk (below_step (by repeat (first | (with_reducible first | exact HB.out | apply below_alloc | apply pw_below_drewN | apply below_drew1 | refine below_set ?_ GE425.out) | exact HB.out)) hb); clear BK425; clear HB; have BK425 := n0_; have HB := n1_; clear n0_ n1_; (try clear hb); (try clear hb2); (try clear hk); (try clear hi); have hcz85_0 : w84.cell? ⟨gb425, 0, none⟩ = some (.slice A0_0 l0_0.length c0_0) := (blk_cell BK425.out 0).trans rfl; have hcz85_1 : w84.cell? ⟨gb425, 1, none⟩ = some (.slice A0_1 l0_1.length c0_1) := (blk_cell BK425.out 1).trans rfl; have hcz85_2 : w84.cell? ⟨gb425, 2, none⟩ = some (.slice A0_2 l0_2.length c0_2) := (blk_cell BK425.out 2).trans rfl; have hcz85_3 : w84.cell? ⟨gb425, 3, none⟩ = some (.int .i64 a0_3) := (blk_cell BK425.out 3).trans rfl; have hfz85_0 := blk_frozen BK425.out 0; have hfz85_1 := blk_frozen BK425.out 1; have hfz85_2 := blk_frozen BK425.out 2; have hfz85_3 := blk_frozen BK425.out 3) | (go_at_call 17; (with_reducible refine (abugidalaw08_Line_cut.calls (fun k_ => k_ < w.heap.size) _ _ l0_0 (fun k_ => k_ < w.heap.size) _ _ l0_1 (fun k_ => k_ < w.heap.size) _ _ l0_2 a0_3 t427 t430 t433 t436 _ ?side1 ?side2 ?side3 A3.out).mono ?_); (case side1 => exact Kd.V_mk HC0_0.out (Kd.F_below (Kd.C_F (Kd.heap_int .i64) HR0_0.out) (by repeat (first | (with_reducible first | exact HB.out | apply below_alloc | apply pw_below_drewN | apply below_drew1 | refine below_set ?_ GE425.out) | exact HB.out)))); (case side2 => exact Kd.V_mk HC0_1.out (Kd.F_below (Kd.C_F (Kd.heap_int .i64) HR0_1.out) (by repeat (first | (with_reducible first | exact HB.out | apply below_alloc | apply pw_below_drewN | apply below_drew1 | refine below_set ?_ GE425.out) | exact HB.out)))); (case side3 => exact Kd.V_mk HC0_2.out (Kd.F_below (Kd.C_F Kd.heap_bool HR0_2.out) (by repeat (first | (with_reducible first | exact HB.out | apply below_alloc | apply pw_below_drewN | apply below_drew1 | refine below_set ?_ GE425.out) | exact HB.out)))); rintro e w86 ⟨v428, v431, v434, rfl, ho0, ho1, ho2, hb⟩; have n0_ := Aside0.mk (Kd.V_lower (Kd.V_mono (ok' := fun k_ => k_ ≠ gb425) ho0 (fun k_ hk_ => Or.elim hk_ (fun hs_ => Or.elim hs_ (fun hs_ => fun e_ => Nat.not_le.2 hs_ (by rw [e_]; exact GW425.out)) (fun hs_ => Or.elim hs_ (fun hs_ => fun e_ => Nat.not_le.2 hs_ (by rw [e_]; exact GW425.out)) (fun hs_ => fun e_ => Nat.not_le.2 hs_ (by rw [e_]; exact GW425.out)))) (fun hn_ => (Kd.freshB (g := gb425) (o := .cells #[.slice A0_0 l0_0.length c0_0, .slice A0_1 l0_1.length c0_1, .slice A0_2 l0_2.length c0_2, .int .i64 a0_3] 37 (0, 0)) (by (with_reducible repeat (first | refine blk_drewN ?_ _ | refine blk_drew ?_ | refine blk_alloc ?_ _)); exact BK425.out) k_ hn_)))) (below_size (by repeat (first | (with_reducible first | exact HB.out | apply below_alloc | apply pw_below_drewN | apply below_drew1 | refine below_set ?_ GE425.out) | exact HB.out)))); have n1_ := Aside0.mk (Kd.V_lower (Kd.V_mono (ok' := fun k_ => k_ ≠ gb425) ho1 (fun k_ hk_ => Or.elim hk_ (fun hs_ => Or.elim hs_ (fun hs_ => fun e_ => Nat.not_le.2 hs_ (by rw [e_]; exact GW425.out)) (fun hs_ => Or.elim hs_ (fun hs_ => fun e_ => Nat.not_le.2 hs_ (by rw [e_]; exact GW425.out)) (fun hs_ => fun e_ => Nat.not_le.2 hs_ (by rw [e_]; exact GW425.out)))) (fun hn_ => (Kd.freshB (g := gb425) (o := .cells #[.slice A0_0 l0_0.length c0_0, .slice A0_1 l0_1.length c0_1, .slice A0_2 l0_2.length c0_2, .int .i64 a0_3] 37 (0, 0)) (by (with_reducible repeat (first | refine blk_drewN ?_ _ | refine blk_drew ?_ | refine blk_alloc ?_ _)); exact BK425.out) k_ hn_)))) (below_size (by repeat (first | (with_reducible first | exact HB.out | apply below_alloc | apply pw_below_drewN | apply below_drew1 | refine below_set ?_ GE425.out) | exact HB.out)))); have n2_ := Aside0.mk (Kd.V_lower (Kd.V_mono (ok' := fun k_ => k_ ≠ gb425) ho2 (fun k_ hk_ => Or.elim hk_ (fun hs_ => Or.elim hs_ (fun hs_ => fun e_ => Nat.not_le.2 hs_ (by rw [e_]; exact GW425.out)) (fun hs_ => Or.elim hs_ (fun hs_ => fun e_ => Nat.not_le.2 hs_ (by rw [e_]; exact GW425.out)) (fun hs_ => fun e_ => Nat.not_le.2 hs_ (by rw [e_]; exact GW425.out)))) (fun hn_ => (Kd.freshB (g := gb425) (o := .cells #[.slice A0_0 l0_0.length c0_0, .slice A0_1 l0_1.length c0_1, .slice A0_2 l0_2.length c0_2, .int .i64 a0_3] 37 (0, 0)) (by (with_reducible repeat (first | refine blk_drewN ?_ _ | refine blk_drew ?_ | refine blk_alloc ?_ _)); exact BK425.out) k_ hn_)))) (below_size (by repeat (first | (with_reducible first | exact HB.out | apply below_alloc | apply pw_below_drewN | apply below_drew1 | refine below_set ?_ GE425.out) | exact HB.out)))); have n3_ := Aside0.mk (blk_below (g := gb425) (o := .cells #[.slice A0_0 l0_0.length c0_0, .slice A0_1 l0_1.length c0_1, .slice A0_2 l0_2.length c0_2, .int .i64 a0_3] 37 (0, 0)) (by (with_reducible repeat (first | refine blk_drewN ?_ _ | refine blk_drew ?_ | refine blk_alloc ?_ _)); exact BK425.out) hb); have n4_ := Aside0.mk (below_step (by repeat (first | (with_reducible first | exact HB.out | apply below_alloc | apply pw_below_drewN | apply below_drew1 | refine below_set ?_ GE425.out) | exact HB.out)) hb); clear BK425; clear HB; have HO429 := n0_; have HO432 := n1_; have HO435 := n2_; have BK425 := n3_; have HB := n4_; clear n0_ n1_ n2_ n3_ n4_; (try clear hb); (try clear hb2); (try clear hk); (try clear hi); (try clear ho0); (try clear ho1); (try clear ho2); obtain ⟨Ao87, co87, eo87⟩ := Kd.V_slice HO429.out; subst eo87; have hcz88_0 : w86.cell? ⟨gb425, 0, none⟩ = some (.slice A0_0 l0_0.length c0_0) := (blk_cell BK425.out 0).trans rfl; have hcz88_1 : w86.cell? ⟨gb425, 1, none⟩ = some (.slice A0_1 l0_1.length c0_1) := (blk_cell BK425.out 1).trans rfl; have hcz88_2 : w86.cell? ⟨gb425, 2, none⟩ = some (.slice A0_2 l0_2.length c0_2) := (blk_cell BK425.out 2).trans rfl; have hcz88_3 : w86.cell? ⟨gb425, 3, none⟩ = some (.int .i64 a0_3) := (blk_cell BK425.out 3).trans rfl; have hfz88_0 := blk_frozen BK425.out 0; have hfz88_1 := blk_frozen BK425.out 1; have hfz88_2 := blk_frozen BK425.out 2; have hfz88_3 := blk_frozen BK425.out 3; obtain ⟨Ao89, co89, eo89⟩ := Kd.V_slice HO432.out; subst eo89; obtain ⟨Ao90, co90, eo90⟩ := Kd.V_slice HO435.out; subst eo90) | (go_at_call 18; (with_reducible refine (breaks_Fill.calls k _ _ t427 _ _ t430 _ _ t433 t436 t437 _ ?side1 ?side2 ?side3 ?side4 ?side5 ?side6 A4.out).mono ?_); (case side1 => refine (Kd.V_reads' (e := 3) (base := w.heap.size) (ok := fun k_ => k_ ≠ gb425) (n := t427.length) (c := co87) ?_).2.2; exact (by (with_reducible repeat (first | apply Kd.V_alloc | apply Kd.V_drewN | apply Kd.V_drew)); exact (Kd.V_mono (Kd.V_far (p := ⟨gb425, 3, none⟩) (Kd.V_far (p := ⟨gb425, 2, none⟩) (Kd.V_far (p := ⟨gb425, 1, none⟩) (Kd.V_far (p := ⟨gb425, 0, none⟩) (Kd.V_mono HO429.out (fun k_ hk => (⟨hk, hk⟩ : _ ∧ k_ ≠ gb425))) (fun _ hk => hk.2) (.slice Ao87 t427.length co87)) (fun _ hk => hk.2) (.slice Ao89 t430.length co89)) (fun _ hk => hk.2) (.slice Ao90 t433.length co90)) (fun _ hk => hk.2) (.int .i64 t436)) (fun _ h_ => h_.1)))); (case side2 => exact (Kd.V_reads' HO429.out).2.1); (case side3 => refine (Kd.V_reads' (e := 3) (base := w.heap.size) (ok := fun k_ => k_ ≠ gb425) (n := t430.length) (c := co89) ?_).2.2; exact (by (with_reducible repeat (first | apply Kd.V_alloc | apply Kd.V_drewN | apply Kd.V_drew)); exact (Kd.V_mono (Kd.V_far (p := ⟨gb425, 3, none⟩) (Kd.V_far (p := ⟨gb425, 2, none⟩) (Kd.V_far (p := ⟨gb425, 1, none⟩) (Kd.V_far (p := ⟨gb425, 0, none⟩) (Kd.V_mono HO432.out (fun k_ hk => (⟨hk, hk⟩ : _ ∧ k_ ≠ gb425))) (fun _ hk => hk.2) (.slice Ao87 t427.length co87)) (fun _ hk => hk.2) (.slice Ao89 t430.length co89)) (fun _ hk => hk.2) (.slice Ao90 t433.length co90)) (fun _ hk => hk.2) (.int .i64 t436)) (fun _ h_ => h_.1)))); (case side4 => exact (Kd.V_reads' HO432.out).2.1); (case side5 => refine (Kd.V_reads' (e := 4) (base := w.heap.size) (ok := fun k_ => k_ ≠ gb425) (n := t433.length) (c := co90) ?_).2.2; exact (by (with_reducible repeat (first | apply Kd.V_alloc | apply Kd.V_drewN | apply Kd.V_drew)); exact (Kd.V_mono (Kd.V_far (p := ⟨gb425, 3, none⟩) (Kd.V_far (p := ⟨gb425, 2, none⟩) (Kd.V_far (p := ⟨gb425, 1, none⟩) (Kd.V_far (p := ⟨gb425, 0, none⟩) (Kd.V_mono HO435.out (fun k_ hk => (⟨hk, hk⟩ : _ ∧ k_ ≠ gb425))) (fun _ hk => hk.2) (.slice Ao87 t427.length co87)) (fun _ hk => hk.2) (.slice Ao89 t430.length co89)) (fun _ hk => hk.2) (.slice Ao90 t433.length co90)) (fun _ hk => hk.2) (.int .i64 t436)) (fun _ h_ => h_.1)))); (case side6 => exact (Kd.V_reads' HO435.out).2.1); rintro e w91 ⟨v438, rfl, ho0, hb⟩; have n0_ := Aside0.mk (Kd.V_elder' (by (with_reducible repeat (first | apply Kd.V_alloc | apply Kd.V_drewN | apply Kd.V_drew)); exact (Kd.V_mono (Kd.V_far (p := ⟨gb425, 3, none⟩) (Kd.V_far (p := ⟨gb425, 2, none⟩) (Kd.V_far (p := ⟨gb425, 1, none⟩) (Kd.V_far (p := ⟨gb425, 0, none⟩) (Kd.V_mono HO429.out (fun k_ hk => (⟨hk, hk⟩ : _ ∧ k_ ≠ gb425))) (fun _ hk => hk.2) (.slice Ao87 t427.length co87)) (fun _ hk => hk.2) (.slice Ao89 t430.length co89)) (fun _ hk => hk.2) (.slice Ao90 t433.length co90)) (fun _ hk => hk.2) (.int .i64 t436)) (fun _ h_ => h_.1))) (Kd.R_base ho0) hb); have n1_ := Aside0.mk (Kd.V_elder' (by (with_reducible repeat (first | apply Kd.V_alloc | apply Kd.V_drewN | apply Kd.V_drew)); exact (Kd.V_mono (Kd.V_far (p := ⟨gb425, 3, none⟩) (Kd.V_far (p := ⟨gb425, 2, none⟩) (Kd.V_far (p := ⟨gb425, 1, none⟩) (Kd.V_far (p := ⟨gb425, 0, none⟩) (Kd.V_mono HO432.out (fun k_ hk => (⟨hk, hk⟩ : _ ∧ k_ ≠ gb425))) (fun _ hk => hk.2) (.slice Ao87 t427.length co87)) (fun _ hk => hk.2) (.slice Ao89 t430.length co89)) (fun _ hk => hk.2) (.slice Ao90 t433.length co90)) (fun _ hk => hk.2) (.int .i64 t436)) (fun _ h_ => h_.1))) (Kd.R_base ho0) hb); have n2_ := Aside0.mk (Kd.V_elder' (by (with_reducible repeat (first | apply Kd.V_alloc | apply Kd.V_drewN | apply Kd.V_drew)); exact (Kd.V_mono (Kd.V_far (p := ⟨gb425, 3, none⟩) (Kd.V_far (p := ⟨gb425, 2, none⟩) (Kd.V_far (p := ⟨gb425, 1, none⟩) (Kd.V_far (p := ⟨gb425, 0, none⟩) (Kd.V_mono HO435.out (fun k_ hk => (⟨hk, hk⟩ : _ ∧ k_ ≠ gb425))) (fun _ hk => hk.2) (.slice Ao87 t427.length co87)) (fun _ hk => hk.2) (.slice Ao89 t430.length co89)) (fun _ hk => hk.2) (.slice Ao90 t433.length co90)) (fun _ hk => hk.2) (.int .i64 t436)) (fun _ h_ => h_.1))) (Kd.R_base ho0) hb); have n3_ := Aside0.mk (Kd.R_lower ho0 (below_size (by repeat (first | (with_reducible first | exact HB.out | apply below_alloc | apply pw_below_drewN | apply below_drew1 | refine below_set ?_ GE425.out) | exact HB.out)))); have n4_ := Aside0.mk (blk_below (g := gb425) (o := .cells #[.slice Ao87 t427.length co87, .slice Ao89 t430.length co89, .slice Ao90 t433.length co90, .int .i64 t436] 37 (0, 0)) (by (with_reducible repeat (first | refine blk_drewN ?_ _ | refine blk_drew ?_ | refine blk_alloc ?_ _)); refine blk_put (cs := #[.slice Ao87 t427.length co87, .slice Ao89 t430.length co89, .slice Ao90 t433.length co90, .int .i64 a0_3]) ?_ 3 _ rfl; (with_reducible repeat (first | refine blk_drewN ?_ _ | refine blk_drew ?_ | refine blk_alloc ?_ _)); refine blk_put (cs := #[.slice Ao87 t427.length co87, .slice Ao89 t430.length co89, .slice A0_2 l0_2.length c0_2, .int .i64 a0_3]) ?_ 2 _ rfl; (with_reducible repeat (first | refine blk_drewN ?_ _ | refine blk_drew ?_ | refine blk_alloc ?_ _)); refine blk_put (cs := #[.slice Ao87 t427.length co87, .slice A0_1 l0_1.length c0_1, .slice A0_2 l0_2.length c0_2, .int .i64 a0_3]) ?_ 1 _ rfl; (with_reducible repeat (first | refine blk_drewN ?_ _ | refine blk_drew ?_ | refine blk_alloc ?_ _)); refine blk_put (cs := #[.slice A0_0 l0_0.length c0_0, .slice A0_1 l0_1.length c0_1, .slice A0_2 l0_2.length c0_2, .int .i64 a0_3]) ?_ 0 _ rfl; (with_reducible repeat (first | refine blk_drewN ?_ _ | refine blk_drew ?_ | refine blk_alloc ?_ _)); exact BK425.out) hb); have n5_ := Aside0.mk (below_step (by repeat (first | (with_reducible first | exact HB.out | apply below_alloc | apply pw_below_drewN | apply below_drew1 | refine below_set ?_ GE425.out) | exact HB.out)) hb); clear HO429; clear HO432; clear HO435; clear BK425; clear HB; have HO429 := n0_; have HO432 := n1_; have HO435 := n2_; have HO439 := n3_; have BK425 := n4_; have HB := n5_; clear n0_ n1_ n2_ n3_ n4_ n5_; (try clear hb); (try clear hb2); (try clear hk); (try clear hi); (try clear ho0); have hcz92_0 : w91.cell? ⟨gb425, 0, none⟩ = some (.slice Ao87 t427.length co87) := (blk_cell BK425.out 0).trans rfl; have hcz92_1 : w91.cell? ⟨gb425, 1, none⟩ = some (.slice Ao89 t430.length co89) := (blk_cell BK425.out 1).trans rfl; have hcz92_2 : w91.cell? ⟨gb425, 2, none⟩ = some (.slice Ao90 t433.length co90) := (blk_cell BK425.out 2).trans rfl; have hcz92_3 : w91.cell? ⟨gb425, 3, none⟩ = some (.int .i64 t436) := (blk_cell BK425.out 3).trans rfl; have hfz92_0 := blk_frozen BK425.out 0; have hfz92_1 := blk_frozen BK425.out 1; have hfz92_2 := blk_frozen BK425.out 2; have hfz92_3 := blk_frozen BK425.out 3) | (go_at_call 20; (with_reducible refine (abugidaref08_Elements.calls k _ _ t427 _ _ t430 _ _ t433 t440 _ ?side1 ?side2 ?side3 ?side4 ?side5 ?side6 A5.out).mono ?_); (case side1 => repeat (first | exact (Kd.V_reads' HO429.out).2.2 | (with_reducible refine Kd.C_alloc ?_ _) | (with_reducible refine Kd.C_drewN ?_ _) | (with_reducible refine Kd.C_drew ?_))); (case side2 => exact (Kd.V_reads' HO429.out).2.1); (case side3 => repeat (first | exact (Kd.V_reads' HO432.out).2.2 | (with_reducible refine Kd.C_alloc ?_ _) | (with_reducible refine Kd.C_drewN ?_ _) | (with_reducible refine Kd.C_drew ?_))); (case side4 => exact (Kd.V_reads' HO432.out).2.1); (case side5 => repeat (first | exact (Kd.V_reads' HO435.out).2.2 | (with_reducible refine Kd.C_alloc ?_ _) | (with_reducible refine Kd.C_drewN ?_ _) | (with_reducible refine Kd.C_drew ?_))); (case side6 => exact (Kd.V_reads' HO435.out).2.1); rintro e w93 ⟨v441, rfl, ho0, hb⟩; have n0_ := Aside0.mk (Kd.V_elder' (by (with_reducible repeat (first | apply Kd.V_alloc | apply Kd.V_drewN | apply Kd.V_drew)); exact HO429.out) (Kd.R_base ho0) hb); have n1_ := Aside0.mk (Kd.V_elder' (by (with_reducible repeat (first | apply Kd.V_alloc | apply Kd.V_drewN | apply Kd.V_drew)); exact HO432.out) (Kd.R_base ho0) hb); have n2_ := Aside0.mk (Kd.V_elder' (by (with_reducible repeat (first | apply Kd.V_alloc | apply Kd.V_drewN | apply Kd.V_drew)); exact HO435.out) (Kd.R_base ho0) hb); have n3_ := Aside0.mk (Kd.R_below (by (with_reducible repeat (first | apply Kd.R_alloc | apply Kd.R_drewN | apply Kd.R_drew)); exact HO439.out) hb); have n4_ := Aside0.mk (Kd.R_lower ho0 (below_size (by repeat (first | (with_reducible first | exact HB.out | apply below_alloc | apply pw_below_drewN | apply below_drew1 | refine below_set ?_ GE425.out) | exact HB.out)))); have n5_ := Aside0.mk (blk_below (g := gb425) (o := .cells #[.slice Ao87 t427.length co87, .slice Ao89 t430.length co89, .slice Ao90 t433.length co90, .int .i64 t436] 37 (0, 0)) (by (with_reducible repeat (first | refine blk_drewN ?_ _ | refine blk_drew ?_ | refine blk_alloc ?_ _)); exact BK425.out) hb); have n6_ := Aside0.mk (below_step (by repeat (first | (with_reducible first | exact HB.out | apply below_alloc | apply pw_below_drewN | apply below_drew1 | refine below_set ?_ GE425.out) | exact HB.out)) hb); clear HO429; clear HO432; clear HO435; clear HO439; clear BK425; clear HB; have HO429 := n0_; have HO432 := n1_; have HO435 := n2_; have HO439 := n3_; have HO442 := n4_; have BK425 := n5_; have HB := n6_; clear n0_ n1_ n2_ n3_ n4_ n5_ n6_; (try clear hb); (try clear hb2); (try clear hk); (try clear hi); (try clear ho0); have hcz94_0 : w93.cell? ⟨gb425, 0, none⟩ = some (.slice Ao87 t427.length co87) := (blk_cell BK425.out 0).trans rfl; have hcz94_1 : w93.cell? ⟨gb425, 1, none⟩ = some (.slice Ao89 t430.length co89) := (blk_cell BK425.out 1).trans rfl; have hcz94_2 : w93.cell? ⟨gb425, 2, none⟩ = some (.slice Ao90 t433.length co90) := (blk_cell BK425.out 2).trans rfl; have hcz94_3 : w93.cell? ⟨gb425, 3, none⟩ = some (.int .i64 t436) := (blk_cell BK425.out 3).trans rfl; have hfz94_0 := blk_frozen BK425.out 0; have hfz94_1 := blk_frozen BK425.out 1; have hfz94_2 := blk_frozen BK425.out 2; have hfz94_3 := blk_frozen BK425.out 3; obtain ⟨Ao95, co95, eo95⟩ := Kd.R_slice HO439.out; subst eo95; obtain ⟨Ao96, co96, eo96⟩ := Kd.R_slice HO442.out; subst eo96)))
  go_ret
  exact ⟨by first | rfl | (simp [errW_none, errW_some] <;> rfl) | (simp only [← hji6, ← hji7]; first | rfl | (simp [errW_none, errW_some] <;> rfl)) | (simp [*, errW_none, errW_some] <;> rfl), by repeat (first | (with_reducible first | exact HB.out | apply below_alloc | apply pw_below_drewN | apply below_drew1 | refine below_set ?_ GE425.out) | exact HB.out)⟩

/-- THE ONE PURE STATEMENT of abugidalaw08_BreaksGreedy: yours. -/
def abugidalaw08_BreaksGreedy.Pure : Prop := ∀ (l0_0 : List Int) (l0_1 : List Int) (l0_2 : List Bool) (a0_3 : Int), l0_0.length ≤ maxLen → (∀ x ∈ l0_0, (Lit.int .i64 x).wf = true) → l0_1.length ≤ maxLen → (∀ x ∈ l0_1, (Lit.int .i64 x).wf = true) → l0_2.length ≤ maxLen → (Lit.int .i64 a0_3).wf = true → ∃ k, abugidalaw08_BreaksGreedy.f k l0_0 l0_1 l0_2 a0_3 = some true
/-- A row of bools that came in. -/
theorem abugidalaw08_BreaksGreedy.bools_ofRowC {w : World} {a : Option Addr} {len cap : Nat} {zs : List Bool} (h : (a = none ∧ len = 0 ∧ cap = 0 ∧ zs = []) ∨ ∃ x, a = some x ∧ len ≤ cap ∧ cap ≤ maxLen ∧ zs.length = cap ∧ ∀ i, i < zs.length → w.cell? (x.add i) = some (.bool (zs.getD i false))) :
  ∃ l : List Bool, len = l.length ∧ ReadsOf Value.bool false w a l.length l ∧ l.length ≤ maxLen ∧ l.length ≤ cap := by
 rcases h with ⟨rfl, rfl, rfl, rfl⟩ | ⟨x, rfl, h1, h2, h3, h4⟩
 ·
  exact ⟨[], rfl, ⟨rfl, Nat.zero_le _, fun h => absurd h (Nat.lt_irrefl _)⟩, Nat.zero_le _, Nat.zero_le _⟩
 ·
  have hl : (zs.take len).length = len := by rw [List.length_take]; omega
  have hml : maxLen ≤ 9223372036854775807 := by decide
  refine ⟨zs.take len, hl.symm, ⟨rfl, by omega, fun _ => ⟨x, rfl, fun j hj => ?_⟩⟩, by omega, by omega⟩
  rw [hl] at hj
  rw [h4 j (by omega), List.getD_eq_getElem?_getD, List.getD_eq_getElem?_getD, List.getElem?_take_of_lt hj]
theorem abugidalaw08_BreaksGreedy.walk (P : abugidalaw08_BreaksGreedy.Pure) (a0_0 : Option Addr) (len0_0 cap0_0 : Nat) (z0_0 : List Int) (a0_1 : Option Addr) (len0_1 cap0_1 : Nat) (z0_1 : List Int) (a0_2 : Option Addr) (len0_2 cap0_2 : Nat) (z0_2 : List Bool) (a0_3 : Int) (w : World) (w0_0 : (a0_0 = none ∧ len0_0 = 0 ∧ cap0_0 = 0 ∧ z0_0 = []) ∨ ∃ x, a0_0 = some x ∧ len0_0 ≤ cap0_0 ∧ cap0_0 ≤ maxLen ∧ z0_0.length = cap0_0 ∧ (∀ i, i < z0_0.length → w.cell? (x.add i) = some (.int .i64 (z0_0.getD i 0))) ∧ ∀ n ∈ z0_0, (Lit.int .i64 n).wf = true) (w0_1 : (a0_1 = none ∧ len0_1 = 0 ∧ cap0_1 = 0 ∧ z0_1 = []) ∨ ∃ x, a0_1 = some x ∧ len0_1 ≤ cap0_1 ∧ cap0_1 ≤ maxLen ∧ z0_1.length = cap0_1 ∧ (∀ i, i < z0_1.length → w.cell? (x.add i) = some (.int .i64 (z0_1.getD i 0))) ∧ ∀ n ∈ z0_1, (Lit.int .i64 n).wf = true) (w0_2 : (a0_2 = none ∧ len0_2 = 0 ∧ cap0_2 = 0 ∧ z0_2 = []) ∨ ∃ x, a0_2 = some x ∧ len0_2 ≤ cap0_2 ∧ cap0_2 ≤ maxLen ∧ z0_2.length = cap0_2 ∧ ∀ i, i < z0_2.length → w.cell? (x.add i) = some (.bool (z0_2.getD i false))) (w0_3 : (Lit.int .i64 a0_3).wf = true) :
  Calls Try.prog 6 #[.agg #[.slice a0_0 len0_0 cap0_0, .slice a0_1 len0_1 cap0_1, .slice a0_2 len0_2 cap0_2, .int .i64 a0_3]] w fun e w' => e = .returned (.bool true) ∧ Below w.heap.size w w' := by
 obtain ⟨l0_0, rfl, hr0_0, hm0_0, hw0_0, hc0_0⟩ := ReadsInt.ofRowC w0_0
 obtain ⟨l0_1, rfl, hr0_1, hm0_1, hw0_1, hc0_1⟩ := ReadsInt.ofRowC w0_1
 obtain ⟨l0_2, rfl, hr0_2, hm0_2, hc0_2⟩ := abugidalaw08_BreaksGreedy.bools_ofRowC w0_2
 obtain ⟨k, h⟩ := P l0_0 l0_1 l0_2 a0_3 hm0_0 hw0_0 hm0_1 hw0_1 hm0_2 w0_3
 refine (abugidalaw08_BreaksGreedy.calls k _ _ l0_0 _ _ l0_1 _ _ l0_2 a0_3 true w (Kd.C_of_reads (d := (0 : Int)) (h1 := fun _ => rfl) hr0_0) hc0_0 (Kd.C_of_reads (d := (0 : Int)) (h1 := fun _ => rfl) hr0_1) hc0_1 (Kd.C_of_reads (d := false) (h1 := fun _ => rfl) hr0_2) hc0_2 h).mono ?_
 rintro e w' ⟨rfl, hd⟩
 exact ⟨rfl, hd⟩

end Go.Proofs.Ythllgpjjjegenaa.Q

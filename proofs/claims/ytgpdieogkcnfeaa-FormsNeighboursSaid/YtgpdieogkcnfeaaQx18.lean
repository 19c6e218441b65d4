-- Written by wip/tools/myprint.py, a program of this session that drives the kit's print.py; not a text of print.sh.
import Derived.Test.YtgpdieogkcnfeaaQx0
import Derived.Test.YtgpdieogkcnfeaaQx2
import Derived.Test.YtgpdieogkcnfeaaQx3
import Derived.Test.YtgpdieogkcnfeaaQx4
import Derived.Test.YtgpdieogkcnfeaaQx6
import Derived.Test.YtgpdieogkcnfeaaQx9
namespace Go.Proofs.Ytgpdieogkcnfeaa.Q
open Go.RowKit Go.Proofs.YtgpdieogkcnfeaaW.PrintWords Go.Proofs.YtgpdieogkcnfeaaW.PrintLast Go.Proofs.YtgpdieogkcnfeaaW.PrintMore
attribute [local go_sem] max2_int min2_int max_two min_two max_three min_three max_four min_four   -- for this text's walks alone
set_option linter.unusedVariables false
set_option linter.unusedSimpArgs false

/-! ### abugidalaw17_FormsNeighbours: function 6 -/
mutual
def abugidalaw17_FormsNeighbours.l0 : Nat → Bool → ByteArray → List (S29) → List Int → Int → Option (Bool)
  | 0, _, _, _, _, _ => none
  | k + 1, x3, x4, x5, x6, x7 => if x7 < (x5.length : Int) then (if 0 ≤ x7 then ((cluster_Base.f k x4 ((rd_T29 x5 x7).f0) ((rd_T29 x5 x7).f1)).bind fun t418 => (if 0 ≤ t418 then (if t418 < (x4.size : Int) then ((chars_Joins.f k (wrap64 (bt x4 t418))).bind fun bt419 => (if x7 < (x6.length : Int) then (if (rd x6 x7) = 2 then (abugidalaw17_FormsNeighbours.j1 k x3 x4 x5 x6 x7 bt419.1 true) else (abugidalaw17_FormsNeighbours.j1 k x3 x4 x5 x6 x7 bt419.1 ((rd x6 x7) == 3))) else (none))) else (none)) else (none))) else (none)) else (some x3)
def abugidalaw17_FormsNeighbours.j1 : Nat → Bool → ByteArray → List (S29) → List Int → Int → Bool → Bool → Option (Bool)
  | 0, _, _, _, _, _, _, _ => none
  | k + 1, x3, x4, x5, x6, x7, x8, x10 => if 0 ≤ x7 then (if x7 < (x6.length : Int) then (if (rd x6 x7) = 4 then (abugidalaw17_FormsNeighbours.j2 k x3 x4 x5 x6 x7 x8 x10 true) else (abugidalaw17_FormsNeighbours.j2 k x3 x4 x5 x6 x7 x8 x10 ((rd x6 x7) == 3))) else (none)) else (none)
def abugidalaw17_FormsNeighbours.j2 : Nat → Bool → ByteArray → List (S29) → List Int → Int → Bool → Bool → Bool → Option (Bool)
  | 0, _, _, _, _, _, _, _, _ => none
  | k + 1, x3, x4, x5, x6, x7, x8, x10, x11 => if 0 ≤ x7 then (if x7 < (x5.length : Int) then (if 0 ≤ (wrap64 (((rd_T29 x5 x7).f1) - 1)) then (if (wrap64 (((rd_T29 x5 x7).f1) - 1)) < (x4.size : Int) then ((chars_Class.f k (wrap64 (bt x4 (wrap64 (((rd_T29 x5 x7).f1) - 1))))).bind fun t426 => (if x7 < (x6.length : Int) then (if (x8 != ((rd x6 x7) != 0)) = true then (abugidalaw17_FormsNeighbours.j3 k x3 x4 x5 x6 x7 x10 x11 (t426 == 13) true) else (if (rd x6 x7) < 0 then (abugidalaw17_FormsNeighbours.j3 k x3 x4 x5 x6 x7 x10 x11 (t426 == 13) true) else (abugidalaw17_FormsNeighbours.j3 k x3 x4 x5 x6 x7 x10 x11 (t426 == 13) (decide ((rd x6 x7) > 4))))) else (none))) else (none)) else (none)) else (none)) else (none)
def abugidalaw17_FormsNeighbours.j3 : Nat → Bool → ByteArray → List (S29) → List Int → Int → Bool → Bool → Bool → Bool → Option (Bool)
  | 0, _, _, _, _, _, _, _, _, _ => none
  | k + 1, x3, x4, x5, x6, x7, x10, x11, x12, x99 => if x99 = true then (some false) else (if (wrap64 (x7 + 1)) < (x5.length : Int) then (if x10 = true then (if x12 = true then (abugidalaw17_FormsNeighbours.j4 k x3 x4 x5 x6 x7 x10 x11 x12 false) else (if 0 ≤ (wrap64 (x7 + 1)) then (if (wrap64 (x7 + 1)) < (x6.length : Int) then (if (rd x6 (wrap64 (x7 + 1))) = 4 then (abugidalaw17_FormsNeighbours.j4 k x3 x4 x5 x6 x7 x10 x11 x12 false) else (abugidalaw17_FormsNeighbours.j4 k x3 x4 x5 x6 x7 x10 x11 x12 ((rd x6 (wrap64 (x7 + 1))) != 3))) else (none)) else (none))) else (abugidalaw17_FormsNeighbours.j4 k x3 x4 x5 x6 x7 x10 x11 x12 false)) else (abugidalaw17_FormsNeighbours.j4 k x3 x4 x5 x6 x7 x10 x11 x12 false))
def abugidalaw17_FormsNeighbours.j4 : Nat → Bool → ByteArray → List (S29) → List Int → Int → Bool → Bool → Bool → Bool → Option (Bool)
  | 0, _, _, _, _, _, _, _, _, _ => none
  | k + 1, x3, x4, x5, x6, x7, x10, x11, x12, x127 => if x127 = true then (some false) else (if x11 = true then (if x7 = 0 then (abugidalaw17_FormsNeighbours.j5 k x3 x4 x5 x6 x7 true) else (if 0 ≤ (wrap64 (x7 - 1)) then (if (wrap64 (x7 - 1)) < (x6.length : Int) then (if (rd x6 (wrap64 (x7 - 1))) = 2 then (if x10 = true then (if x12 = true then (abugidalaw17_FormsNeighbours.j5 k x3 x4 x5 x6 x7 false) else (abugidalaw17_FormsNeighbours.j5 k x3 x4 x5 x6 x7 ((wrap64 (x7 + 1)) == (x5.length : Int)))) else (abugidalaw17_FormsNeighbours.j5 k x3 x4 x5 x6 x7 false)) else (if (rd x6 (wrap64 (x7 - 1))) = 3 then (if x10 = true then (if x12 = true then (abugidalaw17_FormsNeighbours.j5 k x3 x4 x5 x6 x7 false) else (abugidalaw17_FormsNeighbours.j5 k x3 x4 x5 x6 x7 ((wrap64 (x7 + 1)) == (x5.length : Int)))) else (abugidalaw17_FormsNeighbours.j5 k x3 x4 x5 x6 x7 false)) else (abugidalaw17_FormsNeighbours.j5 k x3 x4 x5 x6 x7 true))) else (none)) else (none))) else (if x10 = true then (if x12 = true then (abugidalaw17_FormsNeighbours.j5 k x3 x4 x5 x6 x7 false) else (abugidalaw17_FormsNeighbours.j5 k x3 x4 x5 x6 x7 ((wrap64 (x7 + 1)) == (x5.length : Int)))) else (abugidalaw17_FormsNeighbours.j5 k x3 x4 x5 x6 x7 false)))
def abugidalaw17_FormsNeighbours.j5 : Nat → Bool → ByteArray → List (S29) → List Int → Int → Bool → Option (Bool)
  | 0, _, _, _, _, _, _ => none
  | k + 1, x3, x4, x5, x6, x7, x162 => if x162 = true then (some false) else (abugidalaw17_FormsNeighbours.l0 k x3 x4 x5 x6 (wrap64 (x7 + 1)))
end
def abugidalaw17_FormsNeighbours.f (k : Nat) (l0 : List Int) : Option (Bool) := (abugidalaw17_sanity.f k).bind fun t409 => ((abugidaref05_Text.f k l0 60).bind fun t410 => ((cluster_Split.f t410).bind fun t411 => ((forms_Forms.f k t410).bind fun t414 => (if (t414.length : Int) = (t411.length : Int) then (abugidalaw17_FormsNeighbours.l0 k t409 t410 t411 t414 0) else (some false)))))
theorem abugidalaw17_FormsNeighbours.mono_l : ∀ k, (∀ y0 y1 y2 y3 y4, LeO (abugidalaw17_FormsNeighbours.l0 k y0 y1 y2 y3 y4) (abugidalaw17_FormsNeighbours.l0 (k + 1) y0 y1 y2 y3 y4)) ∧ (∀ y0 y1 y2 y3 y4 y5 y6, LeO (abugidalaw17_FormsNeighbours.j1 k y0 y1 y2 y3 y4 y5 y6) (abugidalaw17_FormsNeighbours.j1 (k + 1) y0 y1 y2 y3 y4 y5 y6)) ∧ (∀ y0 y1 y2 y3 y4 y5 y6 y7, LeO (abugidalaw17_FormsNeighbours.j2 k y0 y1 y2 y3 y4 y5 y6 y7) (abugidalaw17_FormsNeighbours.j2 (k + 1) y0 y1 y2 y3 y4 y5 y6 y7)) ∧ (∀ y0 y1 y2 y3 y4 y5 y6 y7 y8, LeO (abugidalaw17_FormsNeighbours.j3 k y0 y1 y2 y3 y4 y5 y6 y7 y8) (abugidalaw17_FormsNeighbours.j3 (k + 1) y0 y1 y2 y3 y4 y5 y6 y7 y8)) ∧ (∀ y0 y1 y2 y3 y4 y5 y6 y7 y8, LeO (abugidalaw17_FormsNeighbours.j4 k y0 y1 y2 y3 y4 y5 y6 y7 y8) (abugidalaw17_FormsNeighbours.j4 (k + 1) y0 y1 y2 y3 y4 y5 y6 y7 y8)) ∧ (∀ y0 y1 y2 y3 y4 y5, LeO (abugidalaw17_FormsNeighbours.j5 k y0 y1 y2 y3 y4 y5) (abugidalaw17_FormsNeighbours.j5 (k + 1) y0 y1 y2 y3 y4 y5))
  | 0 => ⟨fun _ _ _ _ _ r h => by simp [abugidalaw17_FormsNeighbours.l0] at h, fun _ _ _ _ _ _ _ r h => by simp [abugidalaw17_FormsNeighbours.j1] at h, fun _ _ _ _ _ _ _ _ r h => by simp [abugidalaw17_FormsNeighbours.j2] at h, fun _ _ _ _ _ _ _ _ _ r h => by simp [abugidalaw17_FormsNeighbours.j3] at h, fun _ _ _ _ _ _ _ _ _ r h => by simp [abugidalaw17_FormsNeighbours.j4] at h, fun _ _ _ _ _ _ r h => by simp [abugidalaw17_FormsNeighbours.j5] at h⟩
  | k + 1 => by
    obtain ⟨ih0, ih1, ih2, ih3, ih4, ih5⟩ := abugidalaw17_FormsNeighbours.mono_l k
    refine ⟨?_, ?_, ?_, ?_, ?_, ?_⟩
    · intro y0 y1 y2 y3 y4
      unfold abugidalaw17_FormsNeighbours.l0
      repeat' first
      | (with_reducible exact ih0 _ _ _ _ _)
      | (with_reducible exact ih1 _ _ _ _ _ _ _)
      | (with_reducible exact ih2 _ _ _ _ _ _ _ _)
      | (with_reducible exact ih3 _ _ _ _ _ _ _ _ _)
      | (with_reducible exact ih4 _ _ _ _ _ _ _ _ _)
      | (with_reducible exact ih5 _ _ _ _ _ _)
      | (with_reducible exact abugidalaw17_sanity.mono _)
      | (with_reducible exact abugidaref05_Text.mono _ _ _)
      | (with_reducible exact chars_Class.mono _ _)
      | (with_reducible exact chars_Joins.mono _ _)
      | (with_reducible exact cluster_Base.mono _ _ _ _)
      | (with_reducible exact forms_Forms.mono _ _)
      | (with_reducible exact LeO.refl _)
      | (with_reducible exact LeO.none _)
      | (with_reducible refine LeO.ite ?_ ?_)
      | (with_reducible refine LeO.bind ?_ (fun _ => ?_))
      | exact ih0 _ _ _ _ _
      | exact ih1 _ _ _ _ _ _ _
      | exact ih2 _ _ _ _ _ _ _ _
      | exact ih3 _ _ _ _ _ _ _ _ _
      | exact ih4 _ _ _ _ _ _ _ _ _
      | exact ih5 _ _ _ _ _ _
      | exact abugidalaw17_sanity.mono _
      | exact abugidaref05_Text.mono _ _ _
      | exact chars_Class.mono _ _
      | exact chars_Joins.mono _ _
      | exact cluster_Base.mono _ _ _ _
      | exact forms_Forms.mono _ _
      | exact LeO.none _
      | refine LeO.ite ?_ ?_
      | refine LeO.bind ?_ (fun _ => ?_)
    · intro y0 y1 y2 y3 y4 y5 y6
      unfold abugidalaw17_FormsNeighbours.j1
      repeat' first
      | (with_reducible exact ih0 _ _ _ _ _)
      | (with_reducible exact ih1 _ _ _ _ _ _ _)
      | (with_reducible exact ih2 _ _ _ _ _ _ _ _)
      | (with_reducible exact ih3 _ _ _ _ _ _ _ _ _)
      | (with_reducible exact ih4 _ _ _ _ _ _ _ _ _)
      | (with_reducible exact ih5 _ _ _ _ _ _)
      | (with_reducible exact abugidalaw17_sanity.mono _)
      | (with_reducible exact abugidaref05_Text.mono _ _ _)
      | (with_reducible exact chars_Class.mono _ _)
      | (with_reducible exact chars_Joins.mono _ _)
      | (with_reducible exact cluster_Base.mono _ _ _ _)
      | (with_reducible exact forms_Forms.mono _ _)
      | (with_reducible exact LeO.refl _)
      | (with_reducible exact LeO.none _)
      | (with_reducible refine LeO.ite ?_ ?_)
      | (with_reducible refine LeO.bind ?_ (fun _ => ?_))
      | exact ih0 _ _ _ _ _
      | exact ih1 _ _ _ _ _ _ _
      | exact ih2 _ _ _ _ _ _ _ _
      | exact ih3 _ _ _ _ _ _ _ _ _
      | exact ih4 _ _ _ _ _ _ _ _ _
      | exact ih5 _ _ _ _ _ _
      | exact abugidalaw17_sanity.mono _
      | exact abugidaref05_Text.mono _ _ _
      | exact chars_Class.mono _ _
      | exact chars_Joins.mono _ _
      | exact cluster_Base.mono _ _ _ _
      | exact forms_Forms.mono _ _
      | exact LeO.none _
      | refine LeO.ite ?_ ?_
      | refine LeO.bind ?_ (fun _ => ?_)
    · intro y0 y1 y2 y3 y4 y5 y6 y7
      unfold abugidalaw17_FormsNeighbours.j2
      repeat' first
      | (with_reducible exact ih0 _ _ _ _ _)
      | (with_reducible exact ih1 _ _ _ _ _ _ _)
      | (with_reducible exact ih2 _ _ _ _ _ _ _ _)
      | (with_reducible exact ih3 _ _ _ _ _ _ _ _ _)
      | (with_reducible exact ih4 _ _ _ _ _ _ _ _ _)
      | (with_reducible exact ih5 _ _ _ _ _ _)
      | (with_reducible exact abugidalaw17_sanity.mono _)
      | (with_reducible exact abugidaref05_Text.mono _ _ _)
      | (with_reducible exact chars_Class.mono _ _)
      | (with_reducible exact chars_Joins.mono _ _)
      | (with_reducible exact cluster_Base.mono _ _ _ _)
      | (with_reducible exact forms_Forms.mono _ _)
      | (with_reducible exact LeO.refl _)
      | (with_reducible exact LeO.none _)
      | (with_reducible refine LeO.ite ?_ ?_)
      | (with_reducible refine LeO.bind ?_ (fun _ => ?_))
      | exact ih0 _ _ _ _ _
      | exact ih1 _ _ _ _ _ _ _
      | exact ih2 _ _ _ _ _ _ _ _
      | exact ih3 _ _ _ _ _ _ _ _ _
      | exact ih4 _ _ _ _ _ _ _ _ _
      | exact ih5 _ _ _ _ _ _
      | exact abugidalaw17_sanity.mono _
      | exact abugidaref05_Text.mono _ _ _
      | exact chars_Class.mono _ _
      | exact chars_Joins.mono _ _
      | exact cluster_Base.mono _ _ _ _
      | exact forms_Forms.mono _ _
      | exact LeO.none _
      | refine LeO.ite ?_ ?_
      | refine LeO.bind ?_ (fun _ => ?_)
    · intro y0 y1 y2 y3 y4 y5 y6 y7 y8
      unfold abugidalaw17_FormsNeighbours.j3
      repeat' first
      | (with_reducible exact ih0 _ _ _ _ _)
      | (with_reducible exact ih1 _ _ _ _ _ _ _)
      | (with_reducible exact ih2 _ _ _ _ _ _ _ _)
      | (with_reducible exact ih3 _ _ _ _ _ _ _ _ _)
      | (with_reducible exact ih4 _ _ _ _ _ _ _ _ _)
      | (with_reducible exact ih5 _ _ _ _ _ _)
      | (with_reducible exact abugidalaw17_sanity.mono _)
      | (with_reducible exact abugidaref05_Text.mono _ _ _)
      | (with_reducible exact chars_Class.mono _ _)
      | (with_reducible exact chars_Joins.mono _ _)
      | (with_reducible exact cluster_Base.mono _ _ _ _)
      | (with_reducible exact forms_Forms.mono _ _)
      | (with_reducible exact LeO.refl _)
      | (with_reducible exact LeO.none _)
      | (with_reducible refine LeO.ite ?_ ?_)
      | (with_reducible refine LeO.bind ?_ (fun _ => ?_))
      | exact ih0 _ _ _ _ _
      | exact ih1 _ _ _ _ _ _ _
      | exact ih2 _ _ _ _ _ _ _ _
      | exact ih3 _ _ _ _ _ _ _ _ _
      | exact ih4 _ _ _ _ _ _ _ _ _
      | exact ih5 _ _ _ _ _ _
      | exact abugidalaw17_sanity.mono _
      | exact abugidaref05_Text.mono _ _ _
      | exact chars_Class.mono _ _
      | exact chars_Joins.mono _ _
      | exact cluster_Base.mono _ _ _ _
      | exact forms_Forms.mono _ _
      | exact LeO.none _
      | refine LeO.ite ?_ ?_
      | refine LeO.bind ?_ (fun _ => ?_)
    · intro y0 y1 y2 y3 y4 y5 y6 y7 y8
      unfold abugidalaw17_FormsNeighbours.j4
      repeat' first
      | (with_reducible exact ih0 _ _ _ _ _)
      | (with_reducible exact ih1 _ _ _ _ _ _ _)
      | (with_reducible exact ih2 _ _ _ _ _ _ _ _)
      | (with_reducible exact ih3 _ _ _ _ _ _ _ _ _)
      | (with_reducible exact ih4 _ _ _ _ _ _ _ _ _)
      | (with_reducible exact ih5 _ _ _ _ _ _)
      | (with_reducible exact abugidalaw17_sanity.mono _)
      | (with_reducible exact abugidaref05_Text.mono _ _ _)
      | (with_reducible exact chars_Class.mono _ _)
      | (with_reducible exact chars_Joins.mono _ _)
      | (with_reducible exact cluster_Base.mono _ _ _ _)
      | (with_reducible exact forms_Forms.mono _ _)
      | (with_reducible exact LeO.refl _)
      | (with_reducible exact LeO.none _)
      | (with_reducible refine LeO.ite ?_ ?_)
      | (with_reducible refine LeO.bind ?_ (fun _ => ?_))
      | exact ih0 _ _ _ _ _
      | exact ih1 _ _ _ _ _ _ _
      | exact ih2 _ _ _ _ _ _ _ _
      | exact ih3 _ _ _ _ _ _ _ _ _
      | exact ih4 _ _ _ _ _ _ _ _ _
      | exact ih5 _ _ _ _ _ _
      | exact abugidalaw17_sanity.mono _
      | exact abugidaref05_Text.mono _ _ _
      | exact chars_Class.mono _ _
      | exact chars_Joins.mono _ _
      | exact cluster_Base.mono _ _ _ _
      | exact forms_Forms.mono _ _
      | exact LeO.none _
      | refine LeO.ite ?_ ?_
      | refine LeO.bind ?_ (fun _ => ?_)
    · intro y0 y1 y2 y3 y4 y5
      unfold abugidalaw17_FormsNeighbours.j5
      repeat' first
      | (with_reducible exact ih0 _ _ _ _ _)
      | (with_reducible exact ih1 _ _ _ _ _ _ _)
      | (with_reducible exact ih2 _ _ _ _ _ _ _ _)
      | (with_reducible exact ih3 _ _ _ _ _ _ _ _ _)
      | (with_reducible exact ih4 _ _ _ _ _ _ _ _ _)
      | (with_reducible exact ih5 _ _ _ _ _ _)
      | (with_reducible exact abugidalaw17_sanity.mono _)
      | (with_reducible exact abugidaref05_Text.mono _ _ _)
      | (with_reducible exact chars_Class.mono _ _)
      | (with_reducible exact chars_Joins.mono _ _)
      | (with_reducible exact cluster_Base.mono _ _ _ _)
      | (with_reducible exact forms_Forms.mono _ _)
      | (with_reducible exact LeO.refl _)
      | (with_reducible exact LeO.none _)
      | (with_reducible refine LeO.ite ?_ ?_)
      | (with_reducible refine LeO.bind ?_ (fun _ => ?_))
      | exact ih0 _ _ _ _ _
      | exact ih1 _ _ _ _ _ _ _
      | exact ih2 _ _ _ _ _ _ _ _
      | exact ih3 _ _ _ _ _ _ _ _ _
      | exact ih4 _ _ _ _ _ _ _ _ _
      | exact ih5 _ _ _ _ _ _
      | exact abugidalaw17_sanity.mono _
      | exact abugidaref05_Text.mono _ _ _
      | exact chars_Class.mono _ _
      | exact chars_Joins.mono _ _
      | exact cluster_Base.mono _ _ _ _
      | exact forms_Forms.mono _ _
      | exact LeO.none _
      | refine LeO.ite ?_ ?_
      | refine LeO.bind ?_ (fun _ => ?_)
theorem abugidalaw17_FormsNeighbours.mono : ∀ a0 k, LeO (abugidalaw17_FormsNeighbours.f k a0) (abugidalaw17_FormsNeighbours.f (k + 1) a0) := by
  intro a0 k
  obtain ⟨ih0, ih1, ih2, ih3, ih4, ih5⟩ := abugidalaw17_FormsNeighbours.mono_l k
  unfold abugidalaw17_FormsNeighbours.f
  repeat' first
      | (with_reducible exact ih0 _ _ _ _ _)
      | (with_reducible exact ih1 _ _ _ _ _ _ _)
      | (with_reducible exact ih2 _ _ _ _ _ _ _ _)
      | (with_reducible exact ih3 _ _ _ _ _ _ _ _ _)
      | (with_reducible exact ih4 _ _ _ _ _ _ _ _ _)
      | (with_reducible exact ih5 _ _ _ _ _ _)
      | (with_reducible exact abugidalaw17_sanity.mono _)
      | (with_reducible exact abugidaref05_Text.mono _ _ _)
      | (with_reducible exact chars_Class.mono _ _)
      | (with_reducible exact chars_Joins.mono _ _)
      | (with_reducible exact cluster_Base.mono _ _ _ _)
      | (with_reducible exact forms_Forms.mono _ _)
      | (with_reducible exact LeO.refl _)
      | (with_reducible exact LeO.none _)
      | (with_reducible refine LeO.ite ?_ ?_)
      | (with_reducible refine LeO.bind ?_ (fun _ => ?_))
      | exact ih0 _ _ _ _ _
      | exact ih1 _ _ _ _ _ _ _
      | exact ih2 _ _ _ _ _ _ _ _
      | exact ih3 _ _ _ _ _ _ _ _ _
      | exact ih4 _ _ _ _ _ _ _ _ _
      | exact ih5 _ _ _ _ _ _
      | exact abugidalaw17_sanity.mono _
      | exact abugidaref05_Text.mono _ _ _
      | exact chars_Class.mono _ _
      | exact chars_Joins.mono _ _
      | exact cluster_Base.mono _ _ _ _
      | exact forms_Forms.mono _ _
      | exact LeO.none _
      | refine LeO.ite ?_ ?_
      | refine LeO.bind ?_ (fun _ => ?_)
set_option maxHeartbeats 8000000 in
set_option maxRecDepth 100000 in
theorem abugidalaw17_FormsNeighbours.calls (k : Nat) (A0 : Option Addr) (c0 : Nat) (l0 : List Int) (r : Bool) (w : World) (hr0 : Kd.C (Kd.int .i64) w A0 l0.length l0) (hc0 : l0.length ≤ c0) (h : abugidalaw17_FormsNeighbours.f k l0 = some r) :
    Calls Try.prog 6 #[.slice A0 l0.length c0] w fun e w' => e = .returned (.bool r) ∧ Below w.heap.size w w' := by
  have hu29 := Try.underlying29
  have HR0 := Aside0.mk hr0
  have HC0 := Aside0.mk hc0
  clear hr0 hc0
  have HB := Aside0.mk (Below.refl w.heap.size w)
  have H : ((abugidalaw17_sanity.f k).bind fun t409 => ((abugidaref05_Text.f k l0 60).bind fun t410 => ((cluster_Split.f t410).bind fun t411 => ((forms_Forms.f k t410).bind fun t414 => (if (t414.length : Int) = (t411.length : Int) then (abugidalaw17_FormsNeighbours.l0 k t409 t410 t411 t414 0) else (some false)))))) = some r := h
  clear h
  replace H := Option.bind_eq_some_iff.mp H
  obtain ⟨t409, A20, H⟩ := H
  replace H : ((abugidaref05_Text.f k l0 60).bind fun t410 => ((cluster_Split.f t410).bind fun t411 => ((forms_Forms.f k t410).bind fun t414 => (if (t414.length : Int) = (t411.length : Int) then (abugidalaw17_FormsNeighbours.l0 k t409 t410 t411 t414 0) else (some false))))) = some r := H
  have A2 := Aside0.mk A20
  clear A20
  replace H := Option.bind_eq_some_iff.mp H
  obtain ⟨t410, A30, H⟩ := H
  replace H : ((cluster_Split.f t410).bind fun t411 => ((forms_Forms.f k t410).bind fun t414 => (if (t414.length : Int) = (t411.length : Int) then (abugidalaw17_FormsNeighbours.l0 k t409 t410 t411 t414 0) else (some false)))) = some r := H
  have A3 := Aside0.mk A30
  clear A30
  replace H := Option.bind_eq_some_iff.mp H
  obtain ⟨t411, A40, H⟩ := H
  replace H : ((forms_Forms.f k t410).bind fun t414 => (if (t414.length : Int) = (t411.length : Int) then (abugidalaw17_FormsNeighbours.l0 k t409 t410 t411 t414 0) else (some false))) = some r := H
  have A4 := Aside0.mk A40
  clear A40
  replace H := Option.bind_eq_some_iff.mp H
  obtain ⟨t414, A50, H⟩ := H
  replace H : (if (t414.length : Int) = (t411.length : Int) then (abugidalaw17_FormsNeighbours.l0 k t409 t410 t411 t414 0) else (some false)) = some r := H
  have A5 := Aside0.mk A50
  clear A50
  by_cases c6 : (t414.length : Int) = (t411.length : Int)
  · rw [if_pos c6] at H
    have c6b0 : ((t414.length : Int) == (t411.length : Int)) = true := beq_iff_eq.mpr c6
    have c6b1 : ((t414.length : Int) != (t411.length : Int)) = false := bne_eq_false_iff_eq.mpr c6
    have c6b2 : (t414.length == t411.length) = true := by first | simpa using c6 | (simp at c6 ⊢; omega)
    clear c6
    have H' := Aside0.mk H
    clear H
    go_enter Try.func6, Try.ntmps6
    go_wp2_with (first | ((with_reducible refine gate_callee (f := 9) rfl ?_); refine goesL_ (some 13) rfl rfl Try.func9 (by kernel_rfl) rfl #[] rfl (by (try simp only [List.map_toArray, List.map_cons, List.map_nil]); first | done | rfl | (simp only [List.length_drop, List.length_take]; rfl)) ?_; (with_reducible refine (abugidalaw17_sanity.calls k  t409 _ A2.out).mono ?_); rintro e w7 ⟨rfl, hb⟩; refine ⟨_, rfl, ?_⟩; have n0_ := Aside0.mk (below_step (by repeat (first | (with_reducible first | exact HB.out | apply below_alloc | apply pw_below_drewN | apply below_drew1) | exact HB.out)) hb); clear HB; have HB := n0_; clear n0_; (try clear hb); (try clear hb2); (try clear hk); (try clear hi)) | ((with_reducible refine gate_callee (f := 10) rfl ?_); refine goesL_ (some 15) rfl rfl Try.func10 (by kernel_rfl) rfl #[.slice A0 l0.length c0, .int .i64 60] rfl (by (try simp only [List.map_toArray, List.map_cons, List.map_nil]); first | done | rfl | (simp only [List.length_drop, List.length_take]; rfl)) ?_; (with_reducible refine (abugidaref05_Text.calls k _ _ l0 60 t410 _ ?side1 ?side2 A3.out).mono ?_); (case side1 => repeat (first | exact (Kd.C_below HR0.out HB.out) | (with_reducible refine Kd.C_alloc ?_ _) | (with_reducible refine Kd.C_drewN ?_ _) | (with_reducible refine Kd.C_drew ?_))); (case side2 => exact HC0.out); rintro e w8 ⟨rfl, hb⟩; refine ⟨_, rfl, ?_⟩; have n0_ := Aside0.mk (below_step (by repeat (first | (with_reducible first | exact HB.out | apply below_alloc | apply pw_below_drewN | apply below_drew1) | exact HB.out)) hb); clear HB; have HB := n0_; clear n0_; (try clear hb); (try clear hb2); (try clear hk); (try clear hi)) | ((with_reducible refine gate_callee (f := 14) rfl ?_); refine goesL_ (some 17) rfl rfl Try.func14 (by kernel_rfl) rfl #[.string t410] rfl (by (try simp only [List.map_toArray, List.map_cons, List.map_nil]); first | done | rfl | (simp only [List.length_drop, List.length_take]; rfl)) ?_; (with_reducible refine (cluster_Split.calls t410 t411 _ A4.out).mono ?_); rintro e w9 ⟨v412, rfl, ho0, hb⟩; refine ⟨_, rfl, ?_⟩; have n0_ := Aside0.mk (Kd.R_lower ho0 (below_size (by repeat (first | (with_reducible first | exact HB.out | apply below_alloc | apply pw_below_drewN | apply below_drew1) | exact HB.out)))); have n1_ := Aside0.mk (below_step (by repeat (first | (with_reducible first | exact HB.out | apply below_alloc | apply pw_below_drewN | apply below_drew1) | exact HB.out)) hb); clear HB; have HO413 := n0_; have HB := n1_; clear n0_ n1_; (try clear hb); (try clear hb2); (try clear hk); (try clear hi); (try clear ho0)) | ((with_reducible refine gate_callee (f := 12) rfl ?_); refine goesL_ (some 19) rfl rfl Try.func12 (by kernel_rfl) rfl #[.string t410] rfl (by (try simp only [List.map_toArray, List.map_cons, List.map_nil]); first | done | rfl | (simp only [List.length_drop, List.length_take]; rfl)) ?_; (with_reducible refine (forms_Forms.calls k t410 t414 _ A5.out).mono ?_); rintro e w10 ⟨v415, rfl, ho0, hb⟩; refine ⟨_, rfl, ?_⟩; have n0_ := Aside0.mk (Kd.R_below (by (with_reducible repeat (first | apply Kd.R_alloc | apply Kd.R_drewN | apply Kd.R_drew)); exact HO413.out) hb); have n1_ := Aside0.mk (Kd.R_lower ho0 (below_size (by repeat (first | (with_reducible first | exact HB.out | apply below_alloc | apply pw_below_drewN | apply below_drew1) | exact HB.out)))); have n2_ := Aside0.mk (below_step (by repeat (first | (with_reducible first | exact HB.out | apply below_alloc | apply pw_below_drewN | apply below_drew1) | exact HB.out)) hb); clear HO413; clear HB; have HO413 := n0_; have HO416 := n1_; have HB := n2_; clear n0_ n1_ n2_; (try clear hb); (try clear hb2); (try clear hk); (try clear hi); (try clear ho0); obtain ⟨Ao11, co11, eo11⟩ := Kd.R_slice HO416.out; subst eo11; obtain ⟨Ao12, co12, eo12⟩ := Kd.R_slice HO413.out; subst eo12))
    go_loopg [7] k (fun kq v7 w' => ∃ (x7_1 : Int), v7 = .int .i64 x7_1 ∧ Aside0 (abugidalaw17_FormsNeighbours.l0 kq t409 t410 t411 t414 x7_1 = some r) ∧ Aside0 (kq ≤ k) ∧ Aside0 (Kd.R k29 29 w' w.heap.size (fun _ => True) (.slice Ao12 t411.length co12) t411) ∧ Aside0 (Kd.R (Kd.int .i64) 3 w' w.heap.size (fun _ => True) (.slice Ao11 t414.length co11) t414) ∧ Aside0 (Below w.heap.size w w'))
    case atStart => exact ⟨(0), (by first | rfl | (simp; done) | (simp [*]; done)), H', ⟨Nat.le_refl _⟩, ⟨by (with_reducible repeat (first | apply Kd.R_alloc | apply Kd.R_drewN | apply Kd.R_drew)); exact HO413.out⟩, ⟨by (with_reducible repeat (first | apply Kd.R_alloc | apply Kd.R_drewN | apply Kd.R_drew)); exact HO416.out⟩, ⟨by repeat (first | (with_reducible first | exact HB.out | apply below_alloc | apply pw_below_drewN | apply below_drew1) | exact HB.out)⟩⟩
    case round =>
      clear H'
      try clear c1
      try clear p2
      try clear c6
      try clear c6b0
      try clear c6b1
      try clear c6b2
      try clear c9
      try clear c10
      try clear c12
      obtain ⟨x7_1, rfl, HA, HK1, HO_5, HO_6, HB⟩ := hrel
      cases gk with
      | zero => exact absurd HA.out (by simp [abugidalaw17_FormsNeighbours.l0])
      | succ k1 =>
        have H := HA.out
        clear HA
        simp only [abugidalaw17_FormsNeighbours.l0] at H
        by_cases c13 : x7_1 < (t411.length : Int)
        · rw [if_pos c13] at H
          have c13b0 : decide (x7_1 < (t411.length : Int)) = true := decide_eq_true c13
          clear c13
          by_cases c14 : 0 ≤ x7_1
          · rw [if_pos c14] at H
            have c14b0 : decide (0 ≤ x7_1) = true := decide_eq_true c14
            clear c14
            replace H := Option.bind_eq_some_iff.mp H
            obtain ⟨t418, A150, H⟩ := H
            replace H : (if 0 ≤ t418 then (if t418 < (t410.size : Int) then ((chars_Joins.f k1 (wrap64 (bt t410 t418))).bind fun bt419 => (if x7_1 < (t414.length : Int) then (if (rd t414 x7_1) = 2 then (abugidalaw17_FormsNeighbours.j1 k1 t409 t410 t411 t414 x7_1 bt419.1 true) else (abugidalaw17_FormsNeighbours.j1 k1 t409 t410 t411 t414 x7_1 bt419.1 ((rd t414 x7_1) == 3))) else (none))) else (none)) else (none)) = some r := H
            have A15 := Aside0.mk A150
            clear A150
            by_cases c16 : 0 ≤ t418
            · rw [if_pos c16] at H
              have c16b0 : decide (0 ≤ t418) = true := decide_eq_true c16
              clear c16
              by_cases c17 : t418 < (t410.size : Int)
              · rw [if_pos c17] at H
                have c17b0 : decide (t418 < (t410.size : Int)) = true := decide_eq_true c17
                clear c17
                replace H := Option.bind_eq_some_iff.mp H
                obtain ⟨⟨t419, t420⟩, A190, H⟩ := H
                replace H : (if x7_1 < (t414.length : Int) then (if (rd t414 x7_1) = 2 then (abugidalaw17_FormsNeighbours.j1 k1 t409 t410 t411 t414 x7_1 t419 true) else (abugidalaw17_FormsNeighbours.j1 k1 t409 t410 t411 t414 x7_1 t419 ((rd t414 x7_1) == 3))) else (none)) = some r := H
                have A19 := Aside0.mk A190
                clear A190
                have HC20 := Aside0.mk H
                clear H
                have p417 : 0 ≤ (x7_1 : Int) := of_decide_eq_true (by first | (with_reducible assumption) | assumption)
                have q417 : x7_1 < (t411.length : Int) := of_decide_eq_true (by first | (with_reducible assumption) | assumption)
                obtain ⟨ad417, e417, hx417_0, hx417_1⟩ := at_T29 (Kd.R_reads' HO_5.out).2.2 x7_1 p417 q417
                cases e417
                replace p417 := eq_true p417
                replace q417 := eq_true q417
                go_upto_region 11 with (first | ((with_reducible refine gate_callee (f := 21) rfl ?_); refine goesL_ (some 38) rfl rfl Try.func21 (by kernel_rfl) rfl #[.string t410, .agg #[.int .i64 ((rd_T29 t411 x7_1).f0), .int .i64 ((rd_T29 t411 x7_1).f1)]] rfl (by (try simp only [List.map_toArray, List.map_cons, List.map_nil]); first | done | rfl | (simp only [List.length_drop, List.length_take]; rfl)) ?_; (with_reducible refine (cluster_Base.calls k1 t410 ((rd_T29 t411 x7_1).f0) ((rd_T29 t411 x7_1).f1) t418 _ A15.out).mono ?_); rintro e w21 ⟨rfl, hb⟩; refine ⟨_, rfl, ?_⟩; have n0_ := Aside0.mk (Kd.R_below (by (with_reducible repeat (first | apply Kd.R_alloc | apply Kd.R_drewN | apply Kd.R_drew)); exact HO_5.out) hb); have n1_ := Aside0.mk (Kd.R_below (by (with_reducible repeat (first | apply Kd.R_alloc | apply Kd.R_drewN | apply Kd.R_drew)); exact HO_6.out) hb); have n2_ := Aside0.mk (below_step (by repeat (first | (with_reducible first | exact HB.out | apply below_alloc | apply pw_below_drewN | apply below_drew1) | exact HB.out)) hb); clear HO_5; clear HO_6; clear HB; have HO_5 := n0_; have HO_6 := n1_; have HB := n2_; clear n0_ n1_ n2_; (try clear hb); (try clear hb2); (try clear hk); (try clear hi); have p18 : 0 ≤ (t418 : Int) := of_decide_eq_true (by first | (with_reducible assumption) | assumption); have q18 : t418 < (t410.size : Int) := of_decide_eq_true (by first | (with_reducible assumption) | assumption); have hx18 := bt_at t410 t418; replace p18 := eq_true p18; replace q18 := eq_true q18) | ((with_reducible refine gate_callee (f := 20) rfl ?_); refine goesL_ (some 41) rfl rfl Try.func20 (by kernel_rfl) rfl #[.int .i64 (wrap64 (bt t410 t418))] rfl (by (try simp only [List.map_toArray, List.map_cons, List.map_nil]); first | done | rfl | (simp only [List.length_drop, List.length_take]; rfl)) ?_; (with_reducible refine (chars_Joins.calls k1 (wrap64 (bt t410 t418)) t419 t420 _ A19.out).mono ?_); rintro e w22 ⟨rfl, hb⟩; refine ⟨_, rfl, ?_⟩; have n0_ := Aside0.mk (Kd.R_below (by (with_reducible repeat (first | apply Kd.R_alloc | apply Kd.R_drewN | apply Kd.R_drew)); exact HO_5.out) hb); have n1_ := Aside0.mk (Kd.R_below (by (with_reducible repeat (first | apply Kd.R_alloc | apply Kd.R_drewN | apply Kd.R_drew)); exact HO_6.out) hb); have n2_ := Aside0.mk (below_step (by repeat (first | (with_reducible first | exact HB.out | apply below_alloc | apply pw_below_drewN | apply below_drew1) | exact HB.out)) hb); clear HO_5; clear HO_6; clear HB; have HO_5 := n0_; have HO_6 := n1_; have HB := n2_; clear n0_ n1_ n2_; (try clear hb); (try clear hb2); (try clear hk); (try clear hi)))
                (try simp only [Act.put, List.setIfInBounds_toArray, List.set_cons_zero, List.set_cons_succ])
                go_cut [10] (fun v10 wc => ∃ (kq : Nat) (x10_19 : Bool), v10 = .bool x10_19 ∧ Aside0 (abugidalaw17_FormsNeighbours.j1 kq t409 t410 t411 t414 x7_1 t419 x10_19 = some r) ∧ Aside0 (kq ≤ k1) ∧ Aside0 (Kd.R k29 29 wc w.heap.size (fun _ => True) (.slice (some ad417) t411.length co12) t411) ∧ Aside0 (Kd.R (Kd.int .i64) 3 wc w.heap.size (fun _ => True) (.slice Ao11 t414.length co11) t414) ∧ Aside0 (Below w.heap.size w wc))
                case first =>
                  as_aux_lemma =>
                   have H := HC20.out
                   clear HC20
                   by_cases c23 : x7_1 < (t414.length : Int)
                   · rw [if_pos c23] at H
                     have c23b0 : decide (x7_1 < (t414.length : Int)) = true := decide_eq_true c23
                     clear c23
                     (first | rw [c23b0] | (simp only [i64_w, i32_w]; rw [c23b0]) | skip)
                     by_cases c24 : (rd t414 x7_1) = 2
                     · rw [if_pos c24] at H
                       have c24b0 : ((rd t414 x7_1) == 2) = true := beq_iff_eq.mpr c24
                       have c24b1 : ((rd t414 x7_1) != 2) = false := bne_eq_false_iff_eq.mpr c24
                       clear c24
                       have H' := Aside0.mk H
                       clear H
                       have p421 : 0 ≤ (x7_1 : Int) := of_decide_eq_true (by first | (with_reducible assumption) | assumption)
                       have q421 : x7_1 < (t414.length : Int) := of_decide_eq_true (by first | (with_reducible assumption) | assumption)
                       obtain ⟨ad421, e421, hx421_0⟩ := Kd.at_int (Kd.R_reads' HO_6.out).2.2 x7_1 p421 q421
                       cases e421
                       replace p421 := eq_true p421
                       replace q421 := eq_true q421
                       go_wp2
                       go_meet
                       case rel => exact ⟨_, (true), (by first | rfl | (simp; done) | (simp [*]; done)), H', ⟨by have := HK1.out; first | omega | exact Nat.le_refl _⟩, ⟨by (with_reducible repeat (first | apply Kd.R_alloc | apply Kd.R_drewN | apply Kd.R_drew)); exact HO_5.out⟩, ⟨by (with_reducible repeat (first | apply Kd.R_alloc | apply Kd.R_drewN | apply Kd.R_drew)); exact HO_6.out⟩, ⟨by repeat (first | (with_reducible first | exact HB.out | apply below_alloc | apply pw_below_drewN | apply below_drew1) | exact HB.out)⟩⟩
                     · rw [if_neg c24] at H
                       have c24b0 : ((rd t414 x7_1) == 2) = false := beq_eq_false_iff_ne.mpr c24
                       have c24b1 : ((rd t414 x7_1) != 2) = true := bne_iff_ne.mpr c24
                       have H' := Aside0.mk H
                       clear H
                       have p421 : 0 ≤ (x7_1 : Int) := of_decide_eq_true (by first | (with_reducible assumption) | assumption)
                       have q421 : x7_1 < (t414.length : Int) := of_decide_eq_true (by first | (with_reducible assumption) | assumption)
                       obtain ⟨ad421, e421, hx421_0⟩ := Kd.at_int (Kd.R_reads' HO_6.out).2.2 x7_1 p421 q421
                       cases e421
                       replace p421 := eq_true p421
                       replace q421 := eq_true q421
                       have p422 : 0 ≤ (x7_1 : Int) := of_decide_eq_true (by first | (with_reducible assumption) | assumption)
                       have q422 : x7_1 < (t414.length : Int) := of_decide_eq_true (by first | (with_reducible assumption) | assumption)
                       obtain ⟨ad422, e422, hx422_0⟩ := Kd.at_int (Kd.R_reads' HO_6.out).2.2 x7_1 p422 q422
                       obtain rfl : ad421 = ad422 := (by injection e422)
                       replace p422 := eq_true p422
                       replace q422 := eq_true q422
                       go_wp2
                       go_meet
                       case rel => exact ⟨_, (((rd t414 x7_1) == 3)), (by first | rfl | (simp; done) | (simp [*]; done)), H', ⟨by have := HK1.out; first | omega | exact Nat.le_refl _⟩, ⟨by (with_reducible repeat (first | apply Kd.R_alloc | apply Kd.R_drewN | apply Kd.R_drew)); exact HO_5.out⟩, ⟨by (with_reducible repeat (first | apply Kd.R_alloc | apply Kd.R_drewN | apply Kd.R_drew)); exact HO_6.out⟩, ⟨by repeat (first | (with_reducible first | exact HB.out | apply below_alloc | apply pw_below_drewN | apply below_drew1) | exact HB.out)⟩⟩
                   · rw [if_neg c23] at H
                     exact absurd H (by simp)
                case rest =>
                  as_aux_lemma =>
                   clear HC20
                   try clear c1
                   try clear p1
                   try clear q1
                   try clear hx1
                   try clear c2
                   try clear p2
                   try clear p4
                   try clear q4
                   try clear hx4
                   try clear c6
                   try clear c6b0
                   try clear c6b1
                   try clear c6b2
                   try clear p6
                   try clear c9
                   try clear c10
                   try clear c12
                   try clear c13
                   try clear c13b0
                   try clear c14
                   try clear c14b0
                   try clear c16
                   try clear c16b0
                   try clear c17
                   try clear c17b0
                   try clear p18
                   try clear q18
                   try clear hx18
                   try clear c20
                   try clear c21
                   try clear c23
                   try clear c23b0
                   try clear c24
                   try clear c24b0
                   try clear c24b1
                   try clear hx417_0
                   try clear hx417_1
                   try clear hx421_0
                   try clear hx422_0
                   try clear p18
                   try clear p2
                   try clear p417
                   try clear p421
                   try clear p422
                   try clear q18
                   try clear q417
                   try clear q421
                   try clear q422
                   obtain ⟨kq, x10_19, rfl, HA, HJ19, HO_5, HO_6, HB⟩ := hcut
                   cases kq with
                   | zero => exact absurd HA.out (by simp [abugidalaw17_FormsNeighbours.j1])
                   | succ kj19 =>
                     have H := HA.out
                     clear HA
                     simp only [abugidalaw17_FormsNeighbours.j1] at H
                     have HC25 := Aside0.mk H
                     clear H
                     go_upto_region 12 with (fail)
                     go_cut [11] (fun v11 wc => ∃ (kq : Nat) (x11_24 : Bool), v11 = .bool x11_24 ∧ Aside0 (abugidalaw17_FormsNeighbours.j2 kq t409 t410 t411 t414 x7_1 t419 x10_19 x11_24 = some r) ∧ Aside0 (kq ≤ kj19) ∧ Aside0 (Kd.R k29 29 wc w.heap.size (fun _ => True) (.slice (some ad417) t411.length co12) t411) ∧ Aside0 (Kd.R (Kd.int .i64) 3 wc w.heap.size (fun _ => True) (.slice Ao11 t414.length co11) t414) ∧ Aside0 (Below w.heap.size w wc))
                     case first =>
                       as_aux_lemma =>
                        have H := HC25.out
                        clear HC25
                        by_cases c26 : 0 ≤ x7_1
                        · rw [if_pos c26] at H
                          have c26b0 : decide (0 ≤ x7_1) = true := decide_eq_true c26
                          clear c26
                          (first | rw [c26b0] | (simp only [i64_w, i32_w]; rw [c26b0]) | skip)
                          by_cases c27 : x7_1 < (t414.length : Int)
                          · rw [if_pos c27] at H
                            have c27b0 : decide (x7_1 < (t414.length : Int)) = true := decide_eq_true c27
                            clear c27
                            by_cases c28 : (rd t414 x7_1) = 4
                            · rw [if_pos c28] at H
                              have c28b0 : ((rd t414 x7_1) == 4) = true := beq_iff_eq.mpr c28
                              have c28b1 : ((rd t414 x7_1) != 4) = false := bne_eq_false_iff_eq.mpr c28
                              clear c28
                              have H' := Aside0.mk H
                              clear H
                              have p423 : 0 ≤ (x7_1 : Int) := of_decide_eq_true (by first | (with_reducible assumption) | assumption)
                              have q423 : x7_1 < (t414.length : Int) := of_decide_eq_true (by first | (with_reducible assumption) | assumption)
                              obtain ⟨ad423, e423, hx423_0⟩ := Kd.at_int (Kd.R_reads' HO_6.out).2.2 x7_1 p423 q423
                              cases e423
                              replace p423 := eq_true p423
                              replace q423 := eq_true q423
                              go_wp2
                              go_meet
                              case rel => exact ⟨_, (true), (by first | rfl | (simp; done) | (simp [*]; done)), H', ⟨by have := HK1.out; have := HJ19.out; first | omega | exact Nat.le_refl _⟩, ⟨by (with_reducible repeat (first | apply Kd.R_alloc | apply Kd.R_drewN | apply Kd.R_drew)); exact HO_5.out⟩, ⟨by (with_reducible repeat (first | apply Kd.R_alloc | apply Kd.R_drewN | apply Kd.R_drew)); exact HO_6.out⟩, ⟨by repeat (first | (with_reducible first | exact HB.out | apply below_alloc | apply pw_below_drewN | apply below_drew1) | exact HB.out)⟩⟩
                            · rw [if_neg c28] at H
                              have c28b0 : ((rd t414 x7_1) == 4) = false := beq_eq_false_iff_ne.mpr c28
                              have c28b1 : ((rd t414 x7_1) != 4) = true := bne_iff_ne.mpr c28
                              have H' := Aside0.mk H
                              clear H
                              have p423 : 0 ≤ (x7_1 : Int) := of_decide_eq_true (by first | (with_reducible assumption) | assumption)
                              have q423 : x7_1 < (t414.length : Int) := of_decide_eq_true (by first | (with_reducible assumption) | assumption)
                              obtain ⟨ad423, e423, hx423_0⟩ := Kd.at_int (Kd.R_reads' HO_6.out).2.2 x7_1 p423 q423
                              cases e423
                              replace p423 := eq_true p423
                              replace q423 := eq_true q423
                              have p424 : 0 ≤ (x7_1 : Int) := of_decide_eq_true (by first | (with_reducible assumption) | assumption)
                              have q424 : x7_1 < (t414.length : Int) := of_decide_eq_true (by first | (with_reducible assumption) | assumption)
                              obtain ⟨ad424, e424, hx424_0⟩ := Kd.at_int (Kd.R_reads' HO_6.out).2.2 x7_1 p424 q424
                              obtain rfl : ad423 = ad424 := (by injection e424)
                              replace p424 := eq_true p424
                              replace q424 := eq_true q424
                              go_wp2
                              go_meet
                              case rel => exact ⟨_, (((rd t414 x7_1) == 3)), (by first | rfl | (simp; done) | (simp [*]; done)), H', ⟨by have := HK1.out; have := HJ19.out; first | omega | exact Nat.le_refl _⟩, ⟨by (with_reducible repeat (first | apply Kd.R_alloc | apply Kd.R_drewN | apply Kd.R_drew)); exact HO_5.out⟩, ⟨by (with_reducible repeat (first | apply Kd.R_alloc | apply Kd.R_drewN | apply Kd.R_drew)); exact HO_6.out⟩, ⟨by repeat (first | (with_reducible first | exact HB.out | apply below_alloc | apply pw_below_drewN | apply below_drew1) | exact HB.out)⟩⟩
                          · rw [if_neg c27] at H
                            exact absurd H (by simp)
                        · rw [if_neg c26] at H
                          exact absurd H (by simp)
                     case rest =>
                       as_aux_lemma =>
                        clear HC25
                        try clear c1
                        try clear p1
                        try clear q1
                        try clear hx1
                        try clear c2
                        try clear p2
                        try clear p4
                        try clear q4
                        try clear hx4
                        try clear c6
                        try clear c6b0
                        try clear c6b1
                        try clear c6b2
                        try clear p6
                        try clear c9
                        try clear c10
                        try clear c12
                        try clear c13
                        try clear c13b0
                        try clear c14
                        try clear c14b0
                        try clear c16
                        try clear c16b0
                        try clear c17
                        try clear c17b0
                        try clear p18
                        try clear q18
                        try clear hx18
                        try clear c20
                        try clear c21
                        try clear c23
                        try clear c23b0
                        try clear c24
                        try clear c24b0
                        try clear c24b1
                        try clear c26
                        try clear c26b0
                        try clear c27
                        try clear c27b0
                        try clear c28
                        try clear c28b0
                        try clear c28b1
                        try clear hx417_0
                        try clear hx417_1
                        try clear hx421_0
                        try clear hx422_0
                        try clear hx423_0
                        try clear hx424_0
                        try clear p1
                        try clear p18
                        try clear p2
                        try clear p4
                        try clear p417
                        try clear p421
                        try clear p422
                        try clear p423
                        try clear p424
                        try clear p6
                        try clear q1
                        try clear q18
                        try clear q4
                        try clear q417
                        try clear q421
                        try clear q422
                        try clear q423
                        try clear q424
                        obtain ⟨kq, x11_24, rfl, HA, HJ24, HO_5, HO_6, HB⟩ := hcut
                        cases kq with
                        | zero => exact absurd HA.out (by simp [abugidalaw17_FormsNeighbours.j2])
                        | succ kj24 =>
                          have H := HA.out
                          clear HA
                          simp only [abugidalaw17_FormsNeighbours.j2] at H
                          by_cases c29 : 0 ≤ x7_1
                          · rw [if_pos c29] at H
                            have c29b0 : decide (0 ≤ x7_1) = true := decide_eq_true c29
                            clear c29
                            by_cases c30 : x7_1 < (t411.length : Int)
                            · rw [if_pos c30] at H
                              have c30b0 : decide (x7_1 < (t411.length : Int)) = true := decide_eq_true c30
                              clear c30
                              obtain ⟨ji31, hji31⟩ : ∃ j_ : Int, (wrap64 (((rd_T29 t411 x7_1).f1) - 1)) = j_ := ⟨_, rfl⟩
                              replace H : (if 0 ≤ (ji31) then (if (ji31) < (t410.size : Int) then ((chars_Class.f kj24 (wrap64 (bt t410 (ji31)))).bind fun t426 => (if x7_1 < (t414.length : Int) then (if (t419 != ((rd t414 x7_1) != 0)) = true then (abugidalaw17_FormsNeighbours.j3 kj24 t409 t410 t411 t414 x7_1 x10_19 x11_24 (t426 == 13) true) else (if (rd t414 x7_1) < 0 then (abugidalaw17_FormsNeighbours.j3 kj24 t409 t410 t411 t414 x7_1 x10_19 x11_24 (t426 == 13) true) else (abugidalaw17_FormsNeighbours.j3 kj24 t409 t410 t411 t414 x7_1 x10_19 x11_24 (t426 == 13) (decide ((rd t414 x7_1) > 4))))) else (none))) else (none)) else (none)) = some r := by first | (rw [hji31] at H; exact H) | (simp only [hji31] at H ⊢; exact H)
                              have hji31w : (IntKind.i64.wrap (((rd_T29 t411 x7_1).f1) - 1)) = ji31 := (i64_w _).trans hji31
                              by_cases c32 : 0 ≤ (ji31)
                              · rw [if_pos c32] at H
                                have c32b0 : decide (0 ≤ (ji31)) = true := decide_eq_true c32
                                clear c32
                                by_cases c33 : (ji31) < (t410.size : Int)
                                · rw [if_pos c33] at H
                                  have c33b0 : decide ((ji31) < (t410.size : Int)) = true := decide_eq_true c33
                                  clear c33
                                  replace H := Option.bind_eq_some_iff.mp H
                                  obtain ⟨t426, A350, H⟩ := H
                                  replace H : (if x7_1 < (t414.length : Int) then (if (t419 != ((rd t414 x7_1) != 0)) = true then (abugidalaw17_FormsNeighbours.j3 kj24 t409 t410 t411 t414 x7_1 x10_19 x11_24 (t426 == 13) true) else (if (rd t414 x7_1) < 0 then (abugidalaw17_FormsNeighbours.j3 kj24 t409 t410 t411 t414 x7_1 x10_19 x11_24 (t426 == 13) true) else (abugidalaw17_FormsNeighbours.j3 kj24 t409 t410 t411 t414 x7_1 x10_19 x11_24 (t426 == 13) (decide ((rd t414 x7_1) > 4))))) else (none)) = some r := H
                                  have A35 := Aside0.mk A350
                                  clear A350
                                  have HC36 := Aside0.mk H
                                  clear H
                                  have p425 : 0 ≤ (x7_1 : Int) := of_decide_eq_true (by first | (with_reducible assumption) | assumption)
                                  have q425 : x7_1 < (t411.length : Int) := of_decide_eq_true (by first | (with_reducible assumption) | assumption)
                                  obtain ⟨ad425, e425, hx425_0, hx425_1⟩ := at_T29 (Kd.R_reads' HO_5.out).2.2 x7_1 p425 q425
                                  obtain rfl : ad417 = ad425 := (by injection e425)
                                  replace p425 := eq_true p425
                                  replace q425 := eq_true q425
                                  have p34 : 0 ≤ ((ji31) : Int) := of_decide_eq_true (by first | (with_reducible assumption) | assumption)
                                  have q34 : (ji31) < (t410.size : Int) := of_decide_eq_true (by first | (with_reducible assumption) | assumption)
                                  have hx34 := bt_at t410 (ji31)
                                  replace p34 := eq_true p34
                                  replace q34 := eq_true q34
                                  go_upto_region 14 with (first | ((with_reducible refine gate_callee (f := 22) rfl ?_); refine goesL_ (some 77) rfl rfl Try.func22 (by kernel_rfl) rfl #[.int .i64 (wrap64 (bt t410 (ji31)))] rfl (by (try simp only [List.map_toArray, List.map_cons, List.map_nil]); first | done | (simp only [hji31]; rfl) | rfl | (simp only [List.length_drop, List.length_take]; rfl)) ?_; (with_reducible refine (chars_Class.calls kj24 (wrap64 (bt t410 (ji31))) t426 _ A35.out).mono ?_); rintro e w37 ⟨rfl, hb⟩; refine ⟨_, rfl, ?_⟩; have n0_ := Aside0.mk (Kd.R_below (by (with_reducible repeat (first | apply Kd.R_alloc | apply Kd.R_drewN | apply Kd.R_drew)); exact HO_5.out) hb); have n1_ := Aside0.mk (Kd.R_below (by (with_reducible repeat (first | apply Kd.R_alloc | apply Kd.R_drewN | apply Kd.R_drew)); exact HO_6.out) hb); have n2_ := Aside0.mk (below_step (by repeat (first | (with_reducible first | exact HB.out | apply below_alloc | apply pw_below_drewN | apply below_drew1) | exact HB.out)) hb); clear HO_5; clear HO_6; clear HB; have HO_5 := n0_; have HO_6 := n1_; have HB := n2_; clear n0_ n1_ n2_; (try clear hb); (try clear hb2); (try clear hk); (try clear hi)))
                                  (try simp only [Act.put, List.setIfInBounds_toArray, List.set_cons_zero, List.set_cons_succ])
                                  go_cut [99] (fun v99 wc => ∃ (kq : Nat) (x99_35 : Bool), v99 = .bool x99_35 ∧ Aside0 (abugidalaw17_FormsNeighbours.j3 kq t409 t410 t411 t414 x7_1 x10_19 x11_24 (t426 == 13) x99_35 = some r) ∧ Aside0 (kq ≤ kj24) ∧ Aside0 (Kd.R k29 29 wc w.heap.size (fun _ => True) (.slice (some ad417) t411.length co12) t411) ∧ Aside0 (Kd.R (Kd.int .i64) 3 wc w.heap.size (fun _ => True) (.slice Ao11 t414.length co11) t414) ∧ Aside0 (Below w.heap.size w wc))
                                  case first =>
                                    as_aux_lemma =>
                                     have H := HC36.out
                                     clear HC36
                                     by_cases c38 : x7_1 < (t414.length : Int)
                                     · rw [if_pos c38] at H
                                       have c38b0 : decide (x7_1 < (t414.length : Int)) = true := decide_eq_true c38
                                       clear c38
                                       (first | rw [c38b0] | (simp only [i64_w, i32_w]; rw [c38b0]) | skip)
                                       by_cases c39 : (t419 != ((rd t414 x7_1) != 0)) = true
                                       · rw [if_pos c39] at H
                                         have c39b0 : (t419 != ((rd t414 x7_1) != 0)) = true := c39
                                         (try (have c39b1 : decide (t419 = ((rd t414 x7_1) != 0)) = false := by simpa using c39))
                                         (try (have c39b2 : (t419 == ((rd t414 x7_1) != 0)) = false := by simpa using c39))
                                         (try (have c39b3 : ¬ (t419 = ((rd t414 x7_1) != 0)) := by simpa using c39))
                                         clear c39
                                         have H' := Aside0.mk H
                                         clear H
                                         have p427 : 0 ≤ (x7_1 : Int) := of_decide_eq_true (by first | (with_reducible assumption) | assumption)
                                         have q427 : x7_1 < (t414.length : Int) := of_decide_eq_true (by first | (with_reducible assumption) | assumption)
                                         obtain ⟨ad427, e427, hx427_0⟩ := Kd.at_int (Kd.R_reads' HO_6.out).2.2 x7_1 p427 q427
                                         cases e427
                                         replace p427 := eq_true p427
                                         replace q427 := eq_true q427
                                         go_wp2
                                         go_meet
                                         case rel => exact ⟨_, (true), (by first | rfl | (simp; done) | (simp [*]; done)), H', ⟨by have := HK1.out; have := HJ19.out; have := HJ24.out; first | omega | exact Nat.le_refl _⟩, ⟨by (with_reducible repeat (first | apply Kd.R_alloc | apply Kd.R_drewN | apply Kd.R_drew)); exact HO_5.out⟩, ⟨by (with_reducible repeat (first | apply Kd.R_alloc | apply Kd.R_drewN | apply Kd.R_drew)); exact HO_6.out⟩, ⟨by repeat (first | (with_reducible first | exact HB.out | apply below_alloc | apply pw_below_drewN | apply below_drew1) | exact HB.out)⟩⟩
                                       · rw [if_neg c39] at H
                                         have c39b0 : (t419 != ((rd t414 x7_1) != 0)) = false := by simpa using c39
                                         (try (have c39b1 : decide (t419 = ((rd t414 x7_1) != 0)) = true := by simpa using c39))
                                         (try (have c39b2 : (t419 == ((rd t414 x7_1) != 0)) = true := by simpa using c39))
                                         clear c39
                                         by_cases c40 : (rd t414 x7_1) < 0
                                         · rw [if_pos c40] at H
                                           have c40b0 : decide ((rd t414 x7_1) < 0) = true := decide_eq_true c40
                                           clear c40
                                           have H' := Aside0.mk H
                                           clear H
                                           have p427 : 0 ≤ (x7_1 : Int) := of_decide_eq_true (by first | (with_reducible assumption) | assumption)
                                           have q427 : x7_1 < (t414.length : Int) := of_decide_eq_true (by first | (with_reducible assumption) | assumption)
                                           obtain ⟨ad427, e427, hx427_0⟩ := Kd.at_int (Kd.R_reads' HO_6.out).2.2 x7_1 p427 q427
                                           cases e427
                                           replace p427 := eq_true p427
                                           replace q427 := eq_true q427
                                           have p428 : 0 ≤ (x7_1 : Int) := of_decide_eq_true (by first | (with_reducible assumption) | assumption)
                                           have q428 : x7_1 < (t414.length : Int) := of_decide_eq_true (by first | (with_reducible assumption) | assumption)
                                           obtain ⟨ad428, e428, hx428_0⟩ := Kd.at_int (Kd.R_reads' HO_6.out).2.2 x7_1 p428 q428
                                           obtain rfl : ad427 = ad428 := (by injection e428)
                                           replace p428 := eq_true p428
                                           replace q428 := eq_true q428
                                           go_wp2
                                           go_meet
                                           case rel => exact ⟨_, (true), (by first | rfl | (simp; done) | (simp [*]; done)), H', ⟨by have := HK1.out; have := HJ19.out; have := HJ24.out; first | omega | exact Nat.le_refl _⟩, ⟨by (with_reducible repeat (first | apply Kd.R_alloc | apply Kd.R_drewN | apply Kd.R_drew)); exact HO_5.out⟩, ⟨by (with_reducible repeat (first | apply Kd.R_alloc | apply Kd.R_drewN | apply Kd.R_drew)); exact HO_6.out⟩, ⟨by repeat (first | (with_reducible first | exact HB.out | apply below_alloc | apply pw_below_drewN | apply below_drew1) | exact HB.out)⟩⟩
                                         · rw [if_neg c40] at H
                                           have c40b0 : decide ((rd t414 x7_1) < 0) = false := decide_eq_false c40
                                           clear c40
                                           have H' := Aside0.mk H
                                           clear H
                                           have p427 : 0 ≤ (x7_1 : Int) := of_decide_eq_true (by first | (with_reducible assumption) | assumption)
                                           have q427 : x7_1 < (t414.length : Int) := of_decide_eq_true (by first | (with_reducible assumption) | assumption)
                                           obtain ⟨ad427, e427, hx427_0⟩ := Kd.at_int (Kd.R_reads' HO_6.out).2.2 x7_1 p427 q427
                                           cases e427
                                           replace p427 := eq_true p427
                                           replace q427 := eq_true q427
                                           have p428 : 0 ≤ (x7_1 : Int) := of_decide_eq_true (by first | (with_reducible assumption) | assumption)
                                           have q428 : x7_1 < (t414.length : Int) := of_decide_eq_true (by first | (with_reducible assumption) | assumption)
                                           obtain ⟨ad428, e428, hx428_0⟩ := Kd.at_int (Kd.R_reads' HO_6.out).2.2 x7_1 p428 q428
                                           obtain rfl : ad427 = ad428 := (by injection e428)
                                           replace p428 := eq_true p428
                                           replace q428 := eq_true q428
                                           have p429 : 0 ≤ (x7_1 : Int) := of_decide_eq_true (by first | (with_reducible assumption) | assumption)
                                           have q429 : x7_1 < (t414.length : Int) := of_decide_eq_true (by first | (with_reducible assumption) | assumption)
                                           obtain ⟨ad429, e429, hx429_0⟩ := Kd.at_int (Kd.R_reads' HO_6.out).2.2 x7_1 p429 q429
                                           obtain rfl : ad427 = ad429 := (by injection e429)
                                           replace p429 := eq_true p429
                                           replace q429 := eq_true q429
                                           go_wp2
                                           go_meet
                                           case rel => exact ⟨_, (decide ((rd t414 x7_1) > 4)), (by first | rfl | (simp; done) | (simp [*]; done)), H', ⟨by have := HK1.out; have := HJ19.out; have := HJ24.out; first | omega | exact Nat.le_refl _⟩, ⟨by (with_reducible repeat (first | apply Kd.R_alloc | apply Kd.R_drewN | apply Kd.R_drew)); exact HO_5.out⟩, ⟨by (with_reducible repeat (first | apply Kd.R_alloc | apply Kd.R_drewN | apply Kd.R_drew)); exact HO_6.out⟩, ⟨by repeat (first | (with_reducible first | exact HB.out | apply below_alloc | apply pw_below_drewN | apply below_drew1) | exact HB.out)⟩⟩
                                     · rw [if_neg c38] at H
                                       exact absurd H (by simp)
                                  case rest =>
                                    as_aux_lemma =>
                                     clear HC36
                                     try clear c1
                                     try clear p1
                                     try clear q1
                                     try clear hx1
                                     try clear c2
                                     try clear p2
                                     try clear c3
                                     try clear p3
                                     try clear q3
                                     try clear hx3
                                     try clear c4
                                     try clear p4
                                     try clear q4
                                     try clear hx4
                                     try clear c6
                                     try clear c6b0
                                     try clear c6b1
                                     try clear c6b2
                                     try clear p6
                                     try clear c9
                                     try clear c10
                                     try clear c12
                                     try clear c13
                                     try clear c13b0
                                     try clear c14
                                     try clear c14b0
                                     try clear c16
                                     try clear c16b0
                                     try clear c17
                                     try clear c17b0
                                     try clear p18
                                     try clear q18
                                     try clear hx18
                                     try clear c20
                                     try clear c21
                                     try clear c22
                                     try clear c23
                                     try clear c23b0
                                     try clear c24
                                     try clear c24b0
                                     try clear c24b1
                                     try clear c26
                                     try clear c26b0
                                     try clear c27
                                     try clear c27b0
                                     try clear c28
                                     try clear c28b0
                                     try clear c28b1
                                     try clear c29
                                     try clear c29b0
                                     try clear c30
                                     try clear c30b0
                                     try clear c32
                                     try clear c32b0
                                     try clear c33
                                     try clear c33b0
                                     try clear p34
                                     try clear q34
                                     try clear hx34
                                     try clear c38
                                     try clear c38b0
                                     try clear c39
                                     try clear c39b0
                                     try clear c39b1
                                     try clear c39b2
                                     try clear c40
                                     try clear c40b0
                                     try clear hx417_0
                                     try clear hx417_1
                                     try clear hx421_0
                                     try clear hx422_0
                                     try clear hx423_0
                                     try clear hx424_0
                                     try clear hx425_0
                                     try clear hx425_1
                                     try clear hx427_0
                                     try clear hx428_0
                                     try clear hx429_0
                                     try clear p1
                                     try clear p18
                                     try clear p2
                                     try clear p34
                                     try clear p4
                                     try clear p417
                                     try clear p421
                                     try clear p422
                                     try clear p423
                                     try clear p424
                                     try clear p425
                                     try clear p427
                                     try clear p428
                                     try clear p429
                                     try clear p6
                                     try clear q1
                                     try clear q18
                                     try clear q34
                                     try clear q4
                                     try clear q417
                                     try clear q421
                                     try clear q422
                                     try clear q423
                                     try clear q424
                                     try clear q425
                                     try clear q427
                                     try clear q428
                                     try clear q429
                                     obtain ⟨kq, x99_35, rfl, HA, HJ35, HO_5, HO_6, HB⟩ := hcut
                                     cases kq with
                                     | zero => exact absurd HA.out (by simp [abugidalaw17_FormsNeighbours.j3])
                                     | succ kj35 =>
                                       have H := HA.out
                                       clear HA
                                       simp only [abugidalaw17_FormsNeighbours.j3] at H
                                       by_cases c41 : x99_35 = true
                                       · subst c41
                                         have H1 : (some false) = some r := by rw [if_pos rfl] at H; exact H
                                         clear H
                                         have H := H1
                                         clear H1
                                         obtain rfl := Option.some.inj H
                                         go_wp2
                                         go_ret
                                         exact ⟨by first | rfl | (simp [errW_none, errW_some] <;> rfl) | (simp only [← hji31]; first | rfl | (simp [errW_none, errW_some] <;> rfl)) | (simp [*, errW_none, errW_some] <;> rfl), by repeat (first | (with_reducible first | exact HB.out | apply below_alloc | apply pw_below_drewN | apply below_drew1) | exact HB.out)⟩
                                       · replace c41 := Bool.eq_false_iff.mpr c41
                                         subst c41
                                         have H1 : (if (wrap64 (x7_1 + 1)) < (t411.length : Int) then (if x10_19 = true then (if (t426 == 13) = true then (abugidalaw17_FormsNeighbours.j4 kj35 t409 t410 t411 t414 x7_1 x10_19 x11_24 (t426 == 13) false) else (if 0 ≤ (wrap64 (x7_1 + 1)) then (if (wrap64 (x7_1 + 1)) < (t414.length : Int) then (if (rd t414 (wrap64 (x7_1 + 1))) = 4 then (abugidalaw17_FormsNeighbours.j4 kj35 t409 t410 t411 t414 x7_1 x10_19 x11_24 (t426 == 13) false) else (abugidalaw17_FormsNeighbours.j4 kj35 t409 t410 t411 t414 x7_1 x10_19 x11_24 (t426 == 13) ((rd t414 (wrap64 (x7_1 + 1))) != 3))) else (none)) else (none))) else (abugidalaw17_FormsNeighbours.j4 kj35 t409 t410 t411 t414 x7_1 x10_19 x11_24 (t426 == 13) false)) else (abugidalaw17_FormsNeighbours.j4 kj35 t409 t410 t411 t414 x7_1 x10_19 x11_24 (t426 == 13) false)) = some r := by rw [if_neg (show ¬ (false = true) by decide)] at H; exact H
                                         clear H
                                         have H := H1
                                         clear H1
                                         have HC42 := Aside0.mk H
                                         clear H
                                         go_upto_region 16 with (fail)
                                         go_cut [127] (fun v127 wc => ∃ (kq : Nat) (x127_41 : Bool), v127 = .bool x127_41 ∧ Aside0 (abugidalaw17_FormsNeighbours.j4 kq t409 t410 t411 t414 x7_1 x10_19 x11_24 (t426 == 13) x127_41 = some r) ∧ Aside0 (kq ≤ kj35) ∧ Aside0 (Kd.R k29 29 wc w.heap.size (fun _ => True) (.slice (some ad417) t411.length co12) t411) ∧ Aside0 (Kd.R (Kd.int .i64) 3 wc w.heap.size (fun _ => True) (.slice Ao11 t414.length co11) t414) ∧ Aside0 (Below w.heap.size w wc))
                                         case first =>
                                           as_aux_lemma =>
                                            have H := HC42.out
                                            clear HC42
                                            generalize (t426 == 13) = b13 at *
                                            by_cases c43 : (wrap64 (x7_1 + 1)) < (t411.length : Int)
                                            · rw [if_pos c43] at H
                                              have c43b0 : decide ((wrap64 (x7_1 + 1)) < (t411.length : Int)) = true := decide_eq_true c43
                                              clear c43
                                              (first | rw [c43b0] | (simp only [i64_w, i32_w]; rw [c43b0]) | skip)
                                              by_cases c44 : x10_19 = true
                                              · subst c44
                                                have H1 : (if b13 = true then (abugidalaw17_FormsNeighbours.j4 kj35 t409 t410 t411 t414 x7_1 true x11_24 b13 false) else (if 0 ≤ (wrap64 (x7_1 + 1)) then (if (wrap64 (x7_1 + 1)) < (t414.length : Int) then (if (rd t414 (wrap64 (x7_1 + 1))) = 4 then (abugidalaw17_FormsNeighbours.j4 kj35 t409 t410 t411 t414 x7_1 true x11_24 b13 false) else (abugidalaw17_FormsNeighbours.j4 kj35 t409 t410 t411 t414 x7_1 true x11_24 b13 ((rd t414 (wrap64 (x7_1 + 1))) != 3))) else (none)) else (none))) = some r := by rw [if_pos rfl] at H; exact H
                                                clear H
                                                have H := H1
                                                clear H1
                                                by_cases c45 : b13 = true
                                                · subst c45
                                                  rw [if_pos rfl] at H
                                                  have H' := Aside0.mk H
                                                  clear H
                                                  go_wp2
                                                  go_meet
                                                  case rel => exact ⟨_, (false), (by first | rfl | (simp; done) | (simp [*]; done)), H', ⟨by have := HK1.out; have := HJ19.out; have := HJ24.out; have := HJ35.out; first | omega | exact Nat.le_refl _⟩, ⟨by (with_reducible repeat (first | apply Kd.R_alloc | apply Kd.R_drewN | apply Kd.R_drew)); exact HO_5.out⟩, ⟨by (with_reducible repeat (first | apply Kd.R_alloc | apply Kd.R_drewN | apply Kd.R_drew)); exact HO_6.out⟩, ⟨by repeat (first | (with_reducible first | exact HB.out | apply below_alloc | apply pw_below_drewN | apply below_drew1) | exact HB.out)⟩⟩
                                                · have c45n : b13 = false := by simpa using c45
                                                  clear c45
                                                  subst c45n
                                                  rw [if_neg (by decide)] at H
                                                  obtain ⟨ji46, hji46⟩ : ∃ j_ : Int, (wrap64 (x7_1 + 1)) = j_ := ⟨_, rfl⟩
                                                  replace H : (if 0 ≤ (ji46) then (if (ji46) < (t414.length : Int) then (if (rd t414 (ji46)) = 4 then (abugidalaw17_FormsNeighbours.j4 kj35 t409 t410 t411 t414 x7_1 true x11_24 false false) else (abugidalaw17_FormsNeighbours.j4 kj35 t409 t410 t411 t414 x7_1 true x11_24 false ((rd t414 (ji46)) != 3))) else (none)) else (none)) = some r := by first | (rw [hji46] at H; exact H) | (simp only [hji46] at H ⊢; exact H)
                                                  (try rw [hji46] at c43b0)
                                                  have hji46w : (IntKind.i64.wrap (x7_1 + 1)) = ji46 := (i64_w _).trans hji46
                                                  by_cases c47 : 0 ≤ (ji46)
                                                  · rw [if_pos c47] at H
                                                    have c47b0 : decide (0 ≤ (ji46)) = true := decide_eq_true c47
                                                    clear c47
                                                    by_cases c48 : (ji46) < (t414.length : Int)
                                                    · rw [if_pos c48] at H
                                                      have c48b0 : decide ((ji46) < (t414.length : Int)) = true := decide_eq_true c48
                                                      clear c48
                                                      by_cases c49 : (rd t414 (ji46)) = 4
                                                      · rw [if_pos c49] at H
                                                        have c49b0 : ((rd t414 (ji46)) == 4) = true := beq_iff_eq.mpr c49
                                                        have c49b1 : ((rd t414 (ji46)) != 4) = false := bne_eq_false_iff_eq.mpr c49
                                                        clear c49
                                                        have H' := Aside0.mk H
                                                        clear H
                                                        have p430 : 0 ≤ ((ji46) : Int) := of_decide_eq_true (by first | (with_reducible assumption) | assumption)
                                                        have q430 : (ji46) < (t414.length : Int) := of_decide_eq_true (by first | (with_reducible assumption) | assumption)
                                                        obtain ⟨ad430, e430, hx430_0⟩ := Kd.at_int (Kd.R_reads' HO_6.out).2.2 (ji46) p430 q430
                                                        cases e430
                                                        replace p430 := eq_true p430
                                                        replace q430 := eq_true q430
                                                        go_wp2
                                                        go_meet
                                                        case rel => exact ⟨_, (false), (by first | rfl | (simp; done) | (simp [*]; done)), H', ⟨by have := HK1.out; have := HJ19.out; have := HJ24.out; have := HJ35.out; first | omega | exact Nat.le_refl _⟩, ⟨by (with_reducible repeat (first | apply Kd.R_alloc | apply Kd.R_drewN | apply Kd.R_drew)); exact HO_5.out⟩, ⟨by (with_reducible repeat (first | apply Kd.R_alloc | apply Kd.R_drewN | apply Kd.R_drew)); exact HO_6.out⟩, ⟨by repeat (first | (with_reducible first | exact HB.out | apply below_alloc | apply pw_below_drewN | apply below_drew1) | exact HB.out)⟩⟩
                                                      · rw [if_neg c49] at H
                                                        have c49b0 : ((rd t414 (ji46)) == 4) = false := beq_eq_false_iff_ne.mpr c49
                                                        have c49b1 : ((rd t414 (ji46)) != 4) = true := bne_iff_ne.mpr c49
                                                        have H' := Aside0.mk H
                                                        clear H
                                                        have p430 : 0 ≤ ((ji46) : Int) := of_decide_eq_true (by first | (with_reducible assumption) | assumption)
                                                        have q430 : (ji46) < (t414.length : Int) := of_decide_eq_true (by first | (with_reducible assumption) | assumption)
                                                        obtain ⟨ad430, e430, hx430_0⟩ := Kd.at_int (Kd.R_reads' HO_6.out).2.2 (ji46) p430 q430
                                                        cases e430
                                                        replace p430 := eq_true p430
                                                        replace q430 := eq_true q430
                                                        have p431 : 0 ≤ ((ji46) : Int) := of_decide_eq_true (by first | (with_reducible assumption) | assumption)
                                                        have q431 : (ji46) < (t414.length : Int) := of_decide_eq_true (by first | (with_reducible assumption) | assumption)
                                                        obtain ⟨ad431, e431, hx431_0⟩ := Kd.at_int (Kd.R_reads' HO_6.out).2.2 (ji46) p431 q431
                                                        obtain rfl : ad430 = ad431 := (by injection e431)
                                                        replace p431 := eq_true p431
                                                        replace q431 := eq_true q431
                                                        go_wp2
                                                        go_meet
                                                        case rel => exact ⟨_, (((rd t414 (ji46)) != 3)), (by first | rfl | (simp; done) | (simp only [← hji46] <;> (first | rfl | simp)) | (simp [*]; done)), H', ⟨by have := HK1.out; have := HJ19.out; have := HJ24.out; have := HJ35.out; first | omega | exact Nat.le_refl _⟩, ⟨by (with_reducible repeat (first | apply Kd.R_alloc | apply Kd.R_drewN | apply Kd.R_drew)); exact HO_5.out⟩, ⟨by (with_reducible repeat (first | apply Kd.R_alloc | apply Kd.R_drewN | apply Kd.R_drew)); exact HO_6.out⟩, ⟨by repeat (first | (with_reducible first | exact HB.out | apply below_alloc | apply pw_below_drewN | apply below_drew1) | exact HB.out)⟩⟩
                                                    · rw [if_neg c48] at H
                                                      exact absurd H (by simp)
                                                  · rw [if_neg c47] at H
                                                    exact absurd H (by simp)
                                              · replace c44 := Bool.eq_false_iff.mpr c44
                                                subst c44
                                                have H1 : (abugidalaw17_FormsNeighbours.j4 kj35 t409 t410 t411 t414 x7_1 false x11_24 b13 false) = some r := by rw [if_neg (show ¬ (false = true) by decide)] at H; exact H
                                                clear H
                                                have H := H1
                                                clear H1
                                                have H' := Aside0.mk H
                                                clear H
                                                go_wp2
                                                go_meet
                                                case rel => exact ⟨_, (false), (by first | rfl | (simp; done) | (simp [*]; done)), H', ⟨by have := HK1.out; have := HJ19.out; have := HJ24.out; have := HJ35.out; first | omega | exact Nat.le_refl _⟩, ⟨by (with_reducible repeat (first | apply Kd.R_alloc | apply Kd.R_drewN | apply Kd.R_drew)); exact HO_5.out⟩, ⟨by (with_reducible repeat (first | apply Kd.R_alloc | apply Kd.R_drewN | apply Kd.R_drew)); exact HO_6.out⟩, ⟨by repeat (first | (with_reducible first | exact HB.out | apply below_alloc | apply pw_below_drewN | apply below_drew1) | exact HB.out)⟩⟩
                                            · rw [if_neg c43] at H
                                              have c43b0 : decide ((wrap64 (x7_1 + 1)) < (t411.length : Int)) = false := decide_eq_false c43
                                              clear c43
                                              (first | rw [c43b0] | (simp only [i64_w, i32_w]; rw [c43b0]) | skip)
                                              have H' := Aside0.mk H
                                              clear H
                                              go_wp2
                                              go_meet
                                              case rel => exact ⟨_, (false), (by first | rfl | (simp; done) | (simp [*]; done)), H', ⟨by have := HK1.out; have := HJ19.out; have := HJ24.out; have := HJ35.out; first | omega | exact Nat.le_refl _⟩, ⟨by (with_reducible repeat (first | apply Kd.R_alloc | apply Kd.R_drewN | apply Kd.R_drew)); exact HO_5.out⟩, ⟨by (with_reducible repeat (first | apply Kd.R_alloc | apply Kd.R_drewN | apply Kd.R_drew)); exact HO_6.out⟩, ⟨by repeat (first | (with_reducible first | exact HB.out | apply below_alloc | apply pw_below_drewN | apply below_drew1) | exact HB.out)⟩⟩
                                         case rest =>
                                           as_aux_lemma =>
                                            clear HC42
                                            try clear c1
                                            try clear p1
                                            try clear q1
                                            try clear hx1
                                            try clear c2
                                            try clear p2
                                            try clear c3
                                            try clear p3
                                            try clear q3
                                            try clear hx3
                                            try clear c4
                                            try clear p4
                                            try clear q4
                                            try clear hx4
                                            try clear c6
                                            try clear c6b0
                                            try clear c6b1
                                            try clear c6b2
                                            try clear p6
                                            try clear c9
                                            try clear c10
                                            try clear c12
                                            try clear c13
                                            try clear c13b0
                                            try clear c14
                                            try clear c14b0
                                            try clear c16
                                            try clear c16b0
                                            try clear c17
                                            try clear c17b0
                                            try clear p18
                                            try clear q18
                                            try clear hx18
                                            try clear c20
                                            try clear c21
                                            try clear c22
                                            try clear c23
                                            try clear c23b0
                                            try clear c24
                                            try clear c24b0
                                            try clear c24b1
                                            try clear c26
                                            try clear c26b0
                                            try clear c27
                                            try clear c27b0
                                            try clear c28
                                            try clear c28b0
                                            try clear c28b1
                                            try clear c29
                                            try clear c29b0
                                            try clear c30
                                            try clear c30b0
                                            try clear c32
                                            try clear c32b0
                                            try clear c33
                                            try clear c33b0
                                            try clear p34
                                            try clear q34
                                            try clear hx34
                                            try clear c38
                                            try clear c38b0
                                            try clear c39
                                            try clear c39b0
                                            try clear c39b1
                                            try clear c39b2
                                            try clear c40
                                            try clear c40b0
                                            try clear c41
                                            try clear p41
                                            try clear q41
                                            try clear hx41
                                            try clear p42
                                            try clear q42
                                            try clear hx42
                                            try clear c43
                                            try clear c43b0
                                            try clear p43
                                            try clear q43
                                            try clear hx43
                                            try clear c44
                                            try clear c45
                                            try clear c45b0
                                            try clear c45b1
                                            try clear c45b2
                                            try clear c47
                                            try clear c47b0
                                            try clear c48
                                            try clear c48b0
                                            try clear c49
                                            try clear c49b0
                                            try clear c49b1
                                            try clear hx417_0
                                            try clear hx417_1
                                            try clear hx421_0
                                            try clear hx422_0
                                            try clear hx423_0
                                            try clear hx424_0
                                            try clear hx425_0
                                            try clear hx425_1
                                            try clear hx427_0
                                            try clear hx428_0
                                            try clear hx429_0
                                            try clear hx430_0
                                            try clear hx431_0
                                            try clear p1
                                            try clear p18
                                            try clear p2
                                            try clear p3
                                            try clear p34
                                            try clear p4
                                            try clear p417
                                            try clear p421
                                            try clear p422
                                            try clear p423
                                            try clear p424
                                            try clear p425
                                            try clear p427
                                            try clear p428
                                            try clear p429
                                            try clear p430
                                            try clear p431
                                            try clear p6
                                            try clear q1
                                            try clear q18
                                            try clear q3
                                            try clear q34
                                            try clear q4
                                            try clear q417
                                            try clear q421
                                            try clear q422
                                            try clear q423
                                            try clear q424
                                            try clear q425
                                            try clear q427
                                            try clear q428
                                            try clear q429
                                            try clear q430
                                            try clear q431
                                            obtain ⟨kq, x127_41, rfl, HA, HJ41, HO_5, HO_6, HB⟩ := hcut
                                            cases kq with
                                            | zero => exact absurd HA.out (by simp [abugidalaw17_FormsNeighbours.j4])
                                            | succ kj41 =>
                                              have H := HA.out
                                              clear HA
                                              simp only [abugidalaw17_FormsNeighbours.j4] at H
                                              by_cases c50 : x127_41 = true
                                              · subst c50
                                                have H1 : (some false) = some r := by rw [if_pos rfl] at H; exact H
                                                clear H
                                                have H := H1
                                                clear H1
                                                obtain rfl := Option.some.inj H
                                                go_wp2
                                                go_ret
                                                exact ⟨by first | rfl | (simp [errW_none, errW_some] <;> rfl) | (simp only [← hji31]; first | rfl | (simp [errW_none, errW_some] <;> rfl)) | (simp [*, errW_none, errW_some] <;> rfl), by repeat (first | (with_reducible first | exact HB.out | apply below_alloc | apply pw_below_drewN | apply below_drew1) | exact HB.out)⟩
                                              · replace c50 := Bool.eq_false_iff.mpr c50
                                                subst c50
                                                have H1 : (if x11_24 = true then (if x7_1 = 0 then (abugidalaw17_FormsNeighbours.j5 kj41 t409 t410 t411 t414 x7_1 true) else (if 0 ≤ (wrap64 (x7_1 - 1)) then (if (wrap64 (x7_1 - 1)) < (t414.length : Int) then (if (rd t414 (wrap64 (x7_1 - 1))) = 2 then (if x10_19 = true then (if (t426 == 13) = true then (abugidalaw17_FormsNeighbours.j5 kj41 t409 t410 t411 t414 x7_1 false) else (abugidalaw17_FormsNeighbours.j5 kj41 t409 t410 t411 t414 x7_1 ((wrap64 (x7_1 + 1)) == (t411.length : Int)))) else (abugidalaw17_FormsNeighbours.j5 kj41 t409 t410 t411 t414 x7_1 false)) else (if (rd t414 (wrap64 (x7_1 - 1))) = 3 then (if x10_19 = true then (if (t426 == 13) = true then (abugidalaw17_FormsNeighbours.j5 kj41 t409 t410 t411 t414 x7_1 false) else (abugidalaw17_FormsNeighbours.j5 kj41 t409 t410 t411 t414 x7_1 ((wrap64 (x7_1 + 1)) == (t411.length : Int)))) else (abugidalaw17_FormsNeighbours.j5 kj41 t409 t410 t411 t414 x7_1 false)) else (abugidalaw17_FormsNeighbours.j5 kj41 t409 t410 t411 t414 x7_1 true))) else (none)) else (none))) else (if x10_19 = true then (if (t426 == 13) = true then (abugidalaw17_FormsNeighbours.j5 kj41 t409 t410 t411 t414 x7_1 false) else (abugidalaw17_FormsNeighbours.j5 kj41 t409 t410 t411 t414 x7_1 ((wrap64 (x7_1 + 1)) == (t411.length : Int)))) else (abugidalaw17_FormsNeighbours.j5 kj41 t409 t410 t411 t414 x7_1 false))) = some r := by rw [if_neg (show ¬ (false = true) by decide)] at H; exact H
                                                clear H
                                                have H := H1
                                                clear H1
                                                have HC51 := Aside0.mk H
                                                clear H
                                                go_upto_region 18 with (fail)
                                                go_cut [162] (fun v162 wc => ∃ (kq : Nat) (x162_50 : Bool), v162 = .bool x162_50 ∧ Aside0 (abugidalaw17_FormsNeighbours.j5 kq t409 t410 t411 t414 x7_1 x162_50 = some r) ∧ Aside0 (kq ≤ kj41) ∧ Aside0 (Kd.R k29 29 wc w.heap.size (fun _ => True) (.slice (some ad417) t411.length co12) t411) ∧ Aside0 (Kd.R (Kd.int .i64) 3 wc w.heap.size (fun _ => True) (.slice Ao11 t414.length co11) t414) ∧ Aside0 (Below w.heap.size w wc))
                                                case first =>
                                                  as_aux_lemma =>
                                                   have H := HC51.out
                                                   clear HC51
                                                   generalize (t426 == 13) = b14 at *
                                                   by_cases c52 : x11_24 = true
                                                   · subst c52
                                                     have H1 : (if x7_1 = 0 then (abugidalaw17_FormsNeighbours.j5 kj41 t409 t410 t411 t414 x7_1 true) else (if 0 ≤ (wrap64 (x7_1 - 1)) then (if (wrap64 (x7_1 - 1)) < (t414.length : Int) then (if (rd t414 (wrap64 (x7_1 - 1))) = 2 then (if x10_19 = true then (if b14 = true then (abugidalaw17_FormsNeighbours.j5 kj41 t409 t410 t411 t414 x7_1 false) else (abugidalaw17_FormsNeighbours.j5 kj41 t409 t410 t411 t414 x7_1 ((wrap64 (x7_1 + 1)) == (t411.length : Int)))) else (abugidalaw17_FormsNeighbours.j5 kj41 t409 t410 t411 t414 x7_1 false)) else (if (rd t414 (wrap64 (x7_1 - 1))) = 3 then (if x10_19 = true then (if b14 = true then (abugidalaw17_FormsNeighbours.j5 kj41 t409 t410 t411 t414 x7_1 false) else (abugidalaw17_FormsNeighbours.j5 kj41 t409 t410 t411 t414 x7_1 ((wrap64 (x7_1 + 1)) == (t411.length : Int)))) else (abugidalaw17_FormsNeighbours.j5 kj41 t409 t410 t411 t414 x7_1 false)) else (abugidalaw17_FormsNeighbours.j5 kj41 t409 t410 t411 t414 x7_1 true))) else (none)) else (none))) = some r := by rw [if_pos rfl] at H; exact H
                                                     clear H
                                                     have H := H1
                                                     clear H1
                                                     by_cases c53 : x7_1 = 0
                                                     · rw [if_pos c53] at H
                                                       have c53b0 : (x7_1 == 0) = true := beq_iff_eq.mpr c53
                                                       have c53b1 : (x7_1 != 0) = false := bne_eq_false_iff_eq.mpr c53
                                                       clear c53
                                                       (first | rw [c53b0] | (simp only [i64_w, i32_w]; rw [c53b0]) | skip)
                                                       have H' := Aside0.mk H
                                                       clear H
                                                       go_wp2
                                                       go_meet
                                                       case rel => exact ⟨_, (true), (by first | rfl | (simp; done) | (simp [*]; done)), H', ⟨by have := HK1.out; have := HJ19.out; have := HJ24.out; have := HJ35.out; have := HJ41.out; first | omega | exact Nat.le_refl _⟩, ⟨by (with_reducible repeat (first | apply Kd.R_alloc | apply Kd.R_drewN | apply Kd.R_drew)); exact HO_5.out⟩, ⟨by (with_reducible repeat (first | apply Kd.R_alloc | apply Kd.R_drewN | apply Kd.R_drew)); exact HO_6.out⟩, ⟨by repeat (first | (with_reducible first | exact HB.out | apply below_alloc | apply pw_below_drewN | apply below_drew1) | exact HB.out)⟩⟩
                                                     · rw [if_neg c53] at H
                                                       have c53b0 : (x7_1 == 0) = false := beq_eq_false_iff_ne.mpr c53
                                                       have c53b1 : (x7_1 != 0) = true := bne_iff_ne.mpr c53
                                                       (first | rw [c53b0] | (simp only [i64_w, i32_w]; rw [c53b0]) | skip)
                                                       obtain ⟨ji54, hji54⟩ : ∃ j_ : Int, (wrap64 (x7_1 - 1)) = j_ := ⟨_, rfl⟩
                                                       replace H : (if 0 ≤ (ji54) then (if (ji54) < (t414.length : Int) then (if (rd t414 (ji54)) = 2 then (if x10_19 = true then (if b14 = true then (abugidalaw17_FormsNeighbours.j5 kj41 t409 t410 t411 t414 x7_1 false) else (abugidalaw17_FormsNeighbours.j5 kj41 t409 t410 t411 t414 x7_1 ((wrap64 (x7_1 + 1)) == (t411.length : Int)))) else (abugidalaw17_FormsNeighbours.j5 kj41 t409 t410 t411 t414 x7_1 false)) else (if (rd t414 (ji54)) = 3 then (if x10_19 = true then (if b14 = true then (abugidalaw17_FormsNeighbours.j5 kj41 t409 t410 t411 t414 x7_1 false) else (abugidalaw17_FormsNeighbours.j5 kj41 t409 t410 t411 t414 x7_1 ((wrap64 (x7_1 + 1)) == (t411.length : Int)))) else (abugidalaw17_FormsNeighbours.j5 kj41 t409 t410 t411 t414 x7_1 false)) else (abugidalaw17_FormsNeighbours.j5 kj41 t409 t410 t411 t414 x7_1 true))) else (none)) else (none)) = some r := by first | (rw [hji54] at H; exact H) | (simp only [hji54] at H ⊢; exact H)
                                                       have hji54w : (IntKind.i64.wrap (x7_1 - 1)) = ji54 := (i64_w _).trans hji54
                                                       by_cases c55 : 0 ≤ (ji54)
                                                       · rw [if_pos c55] at H
                                                         have c55b0 : decide (0 ≤ (ji54)) = true := decide_eq_true c55
                                                         clear c55
                                                         by_cases c56 : (ji54) < (t414.length : Int)
                                                         · rw [if_pos c56] at H
                                                           have c56b0 : decide ((ji54) < (t414.length : Int)) = true := decide_eq_true c56
                                                           clear c56
                                                           by_cases c57 : (rd t414 (ji54)) = 2
                                                           · rw [if_pos c57] at H
                                                             have c57b0 : ((rd t414 (ji54)) == 2) = true := beq_iff_eq.mpr c57
                                                             have c57b1 : ((rd t414 (ji54)) != 2) = false := bne_eq_false_iff_eq.mpr c57
                                                             clear c57
                                                             by_cases c58 : x10_19 = true
                                                             · subst c58
                                                               have H1 : (if b14 = true then (abugidalaw17_FormsNeighbours.j5 kj41 t409 t410 t411 t414 x7_1 false) else (abugidalaw17_FormsNeighbours.j5 kj41 t409 t410 t411 t414 x7_1 ((wrap64 (x7_1 + 1)) == (t411.length : Int)))) = some r := by rw [if_pos rfl] at H; exact H
                                                               clear H
                                                               have H := H1
                                                               clear H1
                                                               by_cases c59 : b14 = true
                                                               · subst c59
                                                                 rw [if_pos rfl] at H
                                                                 have H' := Aside0.mk H
                                                                 clear H
                                                                 have p432 : 0 ≤ ((ji54) : Int) := of_decide_eq_true (by first | (with_reducible assumption) | assumption)
                                                                 have q432 : (ji54) < (t414.length : Int) := of_decide_eq_true (by first | (with_reducible assumption) | assumption)
                                                                 obtain ⟨ad432, e432, hx432_0⟩ := Kd.at_int (Kd.R_reads' HO_6.out).2.2 (ji54) p432 q432
                                                                 cases e432
                                                                 replace p432 := eq_true p432
                                                                 replace q432 := eq_true q432
                                                                 go_wp2
                                                                 go_meet
                                                                 case rel => exact ⟨_, (false), (by first | rfl | (simp; done) | (simp [*]; done)), H', ⟨by have := HK1.out; have := HJ19.out; have := HJ24.out; have := HJ35.out; have := HJ41.out; first | omega | exact Nat.le_refl _⟩, ⟨by (with_reducible repeat (first | apply Kd.R_alloc | apply Kd.R_drewN | apply Kd.R_drew)); exact HO_5.out⟩, ⟨by (with_reducible repeat (first | apply Kd.R_alloc | apply Kd.R_drewN | apply Kd.R_drew)); exact HO_6.out⟩, ⟨by repeat (first | (with_reducible first | exact HB.out | apply below_alloc | apply pw_below_drewN | apply below_drew1) | exact HB.out)⟩⟩
                                                               · have c59n : b14 = false := by simpa using c59
                                                                 clear c59
                                                                 subst c59n
                                                                 rw [if_neg (by decide)] at H
                                                                 have H' := Aside0.mk H
                                                                 clear H
                                                                 have p432 : 0 ≤ ((ji54) : Int) := of_decide_eq_true (by first | (with_reducible assumption) | assumption)
                                                                 have q432 : (ji54) < (t414.length : Int) := of_decide_eq_true (by first | (with_reducible assumption) | assumption)
                                                                 obtain ⟨ad432, e432, hx432_0⟩ := Kd.at_int (Kd.R_reads' HO_6.out).2.2 (ji54) p432 q432
                                                                 cases e432
                                                                 replace p432 := eq_true p432
                                                                 replace q432 := eq_true q432
                                                                 go_wp2
                                                                 go_meet
                                                                 case rel => exact ⟨_, (((wrap64 (x7_1 + 1)) == (t411.length : Int))), (by first | rfl | (simp; done) | (simp [*]; done)), H', ⟨by have := HK1.out; have := HJ19.out; have := HJ24.out; have := HJ35.out; have := HJ41.out; first | omega | exact Nat.le_refl _⟩, ⟨by (with_reducible repeat (first | apply Kd.R_alloc | apply Kd.R_drewN | apply Kd.R_drew)); exact HO_5.out⟩, ⟨by (with_reducible repeat (first | apply Kd.R_alloc | apply Kd.R_drewN | apply Kd.R_drew)); exact HO_6.out⟩, ⟨by repeat (first | (with_reducible first | exact HB.out | apply below_alloc | apply pw_below_drewN | apply below_drew1) | exact HB.out)⟩⟩
                                                             · replace c58 := Bool.eq_false_iff.mpr c58
                                                               subst c58
                                                               have H1 : (abugidalaw17_FormsNeighbours.j5 kj41 t409 t410 t411 t414 x7_1 false) = some r := by rw [if_neg (show ¬ (false = true) by decide)] at H; exact H
                                                               clear H
                                                               have H := H1
                                                               clear H1
                                                               have H' := Aside0.mk H
                                                               clear H
                                                               have p432 : 0 ≤ ((ji54) : Int) := of_decide_eq_true (by first | (with_reducible assumption) | assumption)
                                                               have q432 : (ji54) < (t414.length : Int) := of_decide_eq_true (by first | (with_reducible assumption) | assumption)
                                                               obtain ⟨ad432, e432, hx432_0⟩ := Kd.at_int (Kd.R_reads' HO_6.out).2.2 (ji54) p432 q432
                                                               cases e432
                                                               replace p432 := eq_true p432
                                                               replace q432 := eq_true q432
                                                               go_wp2
                                                               go_meet
                                                               case rel => exact ⟨_, (false), (by first | rfl | (simp; done) | (simp [*]; done)), H', ⟨by have := HK1.out; have := HJ19.out; have := HJ24.out; have := HJ35.out; have := HJ41.out; first | omega | exact Nat.le_refl _⟩, ⟨by (with_reducible repeat (first | apply Kd.R_alloc | apply Kd.R_drewN | apply Kd.R_drew)); exact HO_5.out⟩, ⟨by (with_reducible repeat (first | apply Kd.R_alloc | apply Kd.R_drewN | apply Kd.R_drew)); exact HO_6.out⟩, ⟨by repeat (first | (with_reducible first | exact HB.out | apply below_alloc | apply pw_below_drewN | apply below_drew1) | exact HB.out)⟩⟩
                                                           · rw [if_neg c57] at H
                                                             have c57b0 : ((rd t414 (ji54)) == 2) = false := beq_eq_false_iff_ne.mpr c57
                                                             have c57b1 : ((rd t414 (ji54)) != 2) = true := bne_iff_ne.mpr c57
                                                             by_cases c60 : (rd t414 (ji54)) = 3
                                                             · rw [if_pos c60] at H
                                                               have c60b0 : ((rd t414 (ji54)) == 3) = true := beq_iff_eq.mpr c60
                                                               have c60b1 : ((rd t414 (ji54)) != 3) = false := bne_eq_false_iff_eq.mpr c60
                                                               clear c60
                                                               by_cases c61 : x10_19 = true
                                                               · subst c61
                                                                 have H1 : (if b14 = true then (abugidalaw17_FormsNeighbours.j5 kj41 t409 t410 t411 t414 x7_1 false) else (abugidalaw17_FormsNeighbours.j5 kj41 t409 t410 t411 t414 x7_1 ((wrap64 (x7_1 + 1)) == (t411.length : Int)))) = some r := by rw [if_pos rfl] at H; exact H
                                                                 clear H
                                                                 have H := H1
                                                                 clear H1
                                                                 by_cases c62 : b14 = true
                                                                 · subst c62
                                                                   rw [if_pos rfl] at H
                                                                   have H' := Aside0.mk H
                                                                   clear H
                                                                   have p432 : 0 ≤ ((ji54) : Int) := of_decide_eq_true (by first | (with_reducible assumption) | assumption)
                                                                   have q432 : (ji54) < (t414.length : Int) := of_decide_eq_true (by first | (with_reducible assumption) | assumption)
                                                                   obtain ⟨ad432, e432, hx432_0⟩ := Kd.at_int (Kd.R_reads' HO_6.out).2.2 (ji54) p432 q432
                                                                   cases e432
                                                                   replace p432 := eq_true p432
                                                                   replace q432 := eq_true q432
                                                                   have p433 : 0 ≤ ((ji54) : Int) := of_decide_eq_true (by first | (with_reducible assumption) | assumption)
                                                                   have q433 : (ji54) < (t414.length : Int) := of_decide_eq_true (by first | (with_reducible assumption) | assumption)
                                                                   obtain ⟨ad433, e433, hx433_0⟩ := Kd.at_int (Kd.R_reads' HO_6.out).2.2 (ji54) p433 q433
                                                                   obtain rfl : ad432 = ad433 := (by injection e433)
                                                                   replace p433 := eq_true p433
                                                                   replace q433 := eq_true q433
                                                                   go_wp2
                                                                   go_meet
                                                                   case rel => exact ⟨_, (false), (by first | rfl | (simp; done) | (simp [*]; done)), H', ⟨by have := HK1.out; have := HJ19.out; have := HJ24.out; have := HJ35.out; have := HJ41.out; first | omega | exact Nat.le_refl _⟩, ⟨by (with_reducible repeat (first | apply Kd.R_alloc | apply Kd.R_drewN | apply Kd.R_drew)); exact HO_5.out⟩, ⟨by (with_reducible repeat (first | apply Kd.R_alloc | apply Kd.R_drewN | apply Kd.R_drew)); exact HO_6.out⟩, ⟨by repeat (first | (with_reducible first | exact HB.out | apply below_alloc | apply pw_below_drewN | apply below_drew1) | exact HB.out)⟩⟩
                                                                 · have c62n : b14 = false := by simpa using c62
                                                                   clear c62
                                                                   subst c62n
                                                                   rw [if_neg (by decide)] at H
                                                                   have H' := Aside0.mk H
                                                                   clear H
                                                                   have p432 : 0 ≤ ((ji54) : Int) := of_decide_eq_true (by first | (with_reducible assumption) | assumption)
                                                                   have q432 : (ji54) < (t414.length : Int) := of_decide_eq_true (by first | (with_reducible assumption) | assumption)
                                                                   obtain ⟨ad432, e432, hx432_0⟩ := Kd.at_int (Kd.R_reads' HO_6.out).2.2 (ji54) p432 q432
                                                                   cases e432
                                                                   replace p432 := eq_true p432
                                                                   replace q432 := eq_true q432
                                                                   have p433 : 0 ≤ ((ji54) : Int) := of_decide_eq_true (by first | (with_reducible assumption) | assumption)
                                                                   have q433 : (ji54) < (t414.length : Int) := of_decide_eq_true (by first | (with_reducible assumption) | assumption)
                                                                   obtain ⟨ad433, e433, hx433_0⟩ := Kd.at_int (Kd.R_reads' HO_6.out).2.2 (ji54) p433 q433
                                                                   obtain rfl : ad432 = ad433 := (by injection e433)
                                                                   replace p433 := eq_true p433
                                                                   replace q433 := eq_true q433
                                                                   go_wp2
                                                                   go_meet
                                                                   case rel => exact ⟨_, (((wrap64 (x7_1 + 1)) == (t411.length : Int))), (by first | rfl | (simp; done) | (simp [*]; done)), H', ⟨by have := HK1.out; have := HJ19.out; have := HJ24.out; have := HJ35.out; have := HJ41.out; first | omega | exact Nat.le_refl _⟩, ⟨by (with_reducible repeat (first | apply Kd.R_alloc | apply Kd.R_drewN | apply Kd.R_drew)); exact HO_5.out⟩, ⟨by (with_reducible repeat (first | apply Kd.R_alloc | apply Kd.R_drewN | apply Kd.R_drew)); exact HO_6.out⟩, ⟨by repeat (first | (with_reducible first | exact HB.out | apply below_alloc | apply pw_below_drewN | apply below_drew1) | exact HB.out)⟩⟩
                                                               · replace c61 := Bool.eq_false_iff.mpr c61
                                                                 subst c61
                                                                 have H1 : (abugidalaw17_FormsNeighbours.j5 kj41 t409 t410 t411 t414 x7_1 false) = some r := by rw [if_neg (show ¬ (false = true) by decide)] at H; exact H
                                                                 clear H
                                                                 have H := H1
                                                                 clear H1
                                                                 have H' := Aside0.mk H
                                                                 clear H
                                                                 have p432 : 0 ≤ ((ji54) : Int) := of_decide_eq_true (by first | (with_reducible assumption) | assumption)
                                                                 have q432 : (ji54) < (t414.length : Int) := of_decide_eq_true (by first | (with_reducible assumption) | assumption)
                                                                 obtain ⟨ad432, e432, hx432_0⟩ := Kd.at_int (Kd.R_reads' HO_6.out).2.2 (ji54) p432 q432
                                                                 cases e432
                                                                 replace p432 := eq_true p432
                                                                 replace q432 := eq_true q432
                                                                 have p433 : 0 ≤ ((ji54) : Int) := of_decide_eq_true (by first | (with_reducible assumption) | assumption)
                                                                 have q433 : (ji54) < (t414.length : Int) := of_decide_eq_true (by first | (with_reducible assumption) | assumption)
                                                                 obtain ⟨ad433, e433, hx433_0⟩ := Kd.at_int (Kd.R_reads' HO_6.out).2.2 (ji54) p433 q433
                                                                 obtain rfl : ad432 = ad433 := (by injection e433)
                                                                 replace p433 := eq_true p433
                                                                 replace q433 := eq_true q433
                                                                 go_wp2
                                                                 go_meet
                                                                 case rel => exact ⟨_, (false), (by first | rfl | (simp; done) | (simp [*]; done)), H', ⟨by have := HK1.out; have := HJ19.out; have := HJ24.out; have := HJ35.out; have := HJ41.out; first | omega | exact Nat.le_refl _⟩, ⟨by (with_reducible repeat (first | apply Kd.R_alloc | apply Kd.R_drewN | apply Kd.R_drew)); exact HO_5.out⟩, ⟨by (with_reducible repeat (first | apply Kd.R_alloc | apply Kd.R_drewN | apply Kd.R_drew)); exact HO_6.out⟩, ⟨by repeat (first | (with_reducible first | exact HB.out | apply below_alloc | apply pw_below_drewN | apply below_drew1) | exact HB.out)⟩⟩
                                                             · rw [if_neg c60] at H
                                                               have c60b0 : ((rd t414 (ji54)) == 3) = false := beq_eq_false_iff_ne.mpr c60
                                                               have c60b1 : ((rd t414 (ji54)) != 3) = true := bne_iff_ne.mpr c60
                                                               have H' := Aside0.mk H
                                                               clear H
                                                               have p432 : 0 ≤ ((ji54) : Int) := of_decide_eq_true (by first | (with_reducible assumption) | assumption)
                                                               have q432 : (ji54) < (t414.length : Int) := of_decide_eq_true (by first | (with_reducible assumption) | assumption)
                                                               obtain ⟨ad432, e432, hx432_0⟩ := Kd.at_int (Kd.R_reads' HO_6.out).2.2 (ji54) p432 q432
                                                               cases e432
                                                               replace p432 := eq_true p432
                                                               replace q432 := eq_true q432
                                                               have p433 : 0 ≤ ((ji54) : Int) := of_decide_eq_true (by first | (with_reducible assumption) | assumption)
                                                               have q433 : (ji54) < (t414.length : Int) := of_decide_eq_true (by first | (with_reducible assumption) | assumption)
                                                               obtain ⟨ad433, e433, hx433_0⟩ := Kd.at_int (Kd.R_reads' HO_6.out).2.2 (ji54) p433 q433
                                                               obtain rfl : ad432 = ad433 := (by injection e433)
                                                               replace p433 := eq_true p433
                                                               replace q433 := eq_true q433
                                                               go_wp2
                                                               go_meet
                                                               case rel => exact ⟨_, (true), (by first | rfl | (simp; done) | (simp [*]; done)), H', ⟨by have := HK1.out; have := HJ19.out; have := HJ24.out; have := HJ35.out; have := HJ41.out; first | omega | exact Nat.le_refl _⟩, ⟨by (with_reducible repeat (first | apply Kd.R_alloc | apply Kd.R_drewN | apply Kd.R_drew)); exact HO_5.out⟩, ⟨by (with_reducible repeat (first | apply Kd.R_alloc | apply Kd.R_drewN | apply Kd.R_drew)); exact HO_6.out⟩, ⟨by repeat (first | (with_reducible first | exact HB.out | apply below_alloc | apply pw_below_drewN | apply below_drew1) | exact HB.out)⟩⟩
                                                         · rw [if_neg c56] at H
                                                           exact absurd H (by simp)
                                                       · rw [if_neg c55] at H
                                                         exact absurd H (by simp)
                                                   · replace c52 := Bool.eq_false_iff.mpr c52
                                                     subst c52
                                                     have H1 : (if x10_19 = true then (if b14 = true then (abugidalaw17_FormsNeighbours.j5 kj41 t409 t410 t411 t414 x7_1 false) else (abugidalaw17_FormsNeighbours.j5 kj41 t409 t410 t411 t414 x7_1 ((wrap64 (x7_1 + 1)) == (t411.length : Int)))) else (abugidalaw17_FormsNeighbours.j5 kj41 t409 t410 t411 t414 x7_1 false)) = some r := by rw [if_neg (show ¬ (false = true) by decide)] at H; exact H
                                                     clear H
                                                     have H := H1
                                                     clear H1
                                                     by_cases c63 : x10_19 = true
                                                     · subst c63
                                                       have H1 : (if b14 = true then (abugidalaw17_FormsNeighbours.j5 kj41 t409 t410 t411 t414 x7_1 false) else (abugidalaw17_FormsNeighbours.j5 kj41 t409 t410 t411 t414 x7_1 ((wrap64 (x7_1 + 1)) == (t411.length : Int)))) = some r := by rw [if_pos rfl] at H; exact H
                                                       clear H
                                                       have H := H1
                                                       clear H1
                                                       by_cases c64 : b14 = true
                                                       · subst c64
                                                         rw [if_pos rfl] at H
                                                         have H' := Aside0.mk H
                                                         clear H
                                                         go_wp2
                                                         go_meet
                                                         case rel => exact ⟨_, (false), (by first | rfl | (simp; done) | (simp [*]; done)), H', ⟨by have := HK1.out; have := HJ19.out; have := HJ24.out; have := HJ35.out; have := HJ41.out; first | omega | exact Nat.le_refl _⟩, ⟨by (with_reducible repeat (first | apply Kd.R_alloc | apply Kd.R_drewN | apply Kd.R_drew)); exact HO_5.out⟩, ⟨by (with_reducible repeat (first | apply Kd.R_alloc | apply Kd.R_drewN | apply Kd.R_drew)); exact HO_6.out⟩, ⟨by repeat (first | (with_reducible first | exact HB.out | apply below_alloc | apply pw_below_drewN | apply below_drew1) | exact HB.out)⟩⟩
                                                       · have c64n : b14 = false := by simpa using c64
                                                         clear c64
                                                         subst c64n
                                                         rw [if_neg (by decide)] at H
                                                         have H' := Aside0.mk H
                                                         clear H
                                                         go_wp2
                                                         go_meet
                                                         case rel => exact ⟨_, (((wrap64 (x7_1 + 1)) == (t411.length : Int))), (by first | rfl | (simp; done) | (simp [*]; done)), H', ⟨by have := HK1.out; have := HJ19.out; have := HJ24.out; have := HJ35.out; have := HJ41.out; first | omega | exact Nat.le_refl _⟩, ⟨by (with_reducible repeat (first | apply Kd.R_alloc | apply Kd.R_drewN | apply Kd.R_drew)); exact HO_5.out⟩, ⟨by (with_reducible repeat (first | apply Kd.R_alloc | apply Kd.R_drewN | apply Kd.R_drew)); exact HO_6.out⟩, ⟨by repeat (first | (with_reducible first | exact HB.out | apply below_alloc | apply pw_below_drewN | apply below_drew1) | exact HB.out)⟩⟩
                                                     · replace c63 := Bool.eq_false_iff.mpr c63
                                                       subst c63
                                                       have H1 : (abugidalaw17_FormsNeighbours.j5 kj41 t409 t410 t411 t414 x7_1 false) = some r := by rw [if_neg (show ¬ (false = true) by decide)] at H; exact H
                                                       clear H
                                                       have H := H1
                                                       clear H1
                                                       have H' := Aside0.mk H
                                                       clear H
                                                       go_wp2
                                                       go_meet
                                                       case rel => exact ⟨_, (false), (by first | rfl | (simp; done) | (simp [*]; done)), H', ⟨by have := HK1.out; have := HJ19.out; have := HJ24.out; have := HJ35.out; have := HJ41.out; first | omega | exact Nat.le_refl _⟩, ⟨by (with_reducible repeat (first | apply Kd.R_alloc | apply Kd.R_drewN | apply Kd.R_drew)); exact HO_5.out⟩, ⟨by (with_reducible repeat (first | apply Kd.R_alloc | apply Kd.R_drewN | apply Kd.R_drew)); exact HO_6.out⟩, ⟨by repeat (first | (with_reducible first | exact HB.out | apply below_alloc | apply pw_below_drewN | apply below_drew1) | exact HB.out)⟩⟩
                                                case rest =>
                                                  as_aux_lemma =>
                                                   clear HC51
                                                   try clear c1
                                                   try clear p1
                                                   try clear q1
                                                   try clear hx1
                                                   try clear c2
                                                   try clear p2
                                                   try clear c3
                                                   try clear p3
                                                   try clear q3
                                                   try clear hx3
                                                   try clear c4
                                                   try clear p4
                                                   try clear q4
                                                   try clear hx4
                                                   try clear c5
                                                   try clear c6
                                                   try clear c6b0
                                                   try clear c6b1
                                                   try clear c6b2
                                                   try clear p6
                                                   try clear c9
                                                   try clear c10
                                                   try clear c12
                                                   try clear c13
                                                   try clear c13b0
                                                   try clear c14
                                                   try clear c14b0
                                                   try clear c16
                                                   try clear c16b0
                                                   try clear c17
                                                   try clear c17b0
                                                   try clear p18
                                                   try clear q18
                                                   try clear hx18
                                                   try clear c20
                                                   try clear c21
                                                   try clear c22
                                                   try clear c23
                                                   try clear c23b0
                                                   try clear c24
                                                   try clear c24b0
                                                   try clear c24b1
                                                   try clear c26
                                                   try clear c26b0
                                                   try clear c27
                                                   try clear c27b0
                                                   try clear c28
                                                   try clear c28b0
                                                   try clear c28b1
                                                   try clear c29
                                                   try clear c29b0
                                                   try clear c30
                                                   try clear c30b0
                                                   try clear c32
                                                   try clear c32b0
                                                   try clear c33
                                                   try clear c33b0
                                                   try clear p34
                                                   try clear q34
                                                   try clear hx34
                                                   try clear c38
                                                   try clear c38b0
                                                   try clear c39
                                                   try clear c39b0
                                                   try clear c39b1
                                                   try clear c39b2
                                                   try clear c40
                                                   try clear c40b0
                                                   try clear c41
                                                   try clear p41
                                                   try clear q41
                                                   try clear hx41
                                                   try clear p42
                                                   try clear q42
                                                   try clear hx42
                                                   try clear c43
                                                   try clear c43b0
                                                   try clear p43
                                                   try clear q43
                                                   try clear hx43
                                                   try clear c44
                                                   try clear c45
                                                   try clear c45b0
                                                   try clear c45b1
                                                   try clear c45b2
                                                   try clear c47
                                                   try clear c47b0
                                                   try clear c48
                                                   try clear c48b0
                                                   try clear c49
                                                   try clear c49b0
                                                   try clear c49b1
                                                   try clear c50
                                                   try clear c52
                                                   try clear c53
                                                   try clear c53b0
                                                   try clear c53b1
                                                   try clear c55
                                                   try clear c55b0
                                                   try clear c56
                                                   try clear c56b0
                                                   try clear c57
                                                   try clear c57b0
                                                   try clear c57b1
                                                   try clear c58
                                                   try clear c59
                                                   try clear c59b0
                                                   try clear c59b1
                                                   try clear c59b2
                                                   try clear c60
                                                   try clear c60b0
                                                   try clear c60b1
                                                   try clear c61
                                                   try clear c62
                                                   try clear c62b0
                                                   try clear c62b1
                                                   try clear c62b2
                                                   try clear c63
                                                   try clear c64
                                                   try clear c64b0
                                                   try clear c64b1
                                                   try clear c64b2
                                                   try clear p64
                                                   try clear hx417_0
                                                   try clear hx417_1
                                                   try clear hx421_0
                                                   try clear hx422_0
                                                   try clear hx423_0
                                                   try clear hx424_0
                                                   try clear hx425_0
                                                   try clear hx425_1
                                                   try clear hx427_0
                                                   try clear hx428_0
                                                   try clear hx429_0
                                                   try clear hx430_0
                                                   try clear hx431_0
                                                   try clear hx432_0
                                                   try clear hx433_0
                                                   try clear p1
                                                   try clear p18
                                                   try clear p2
                                                   try clear p3
                                                   try clear p34
                                                   try clear p4
                                                   try clear p41
                                                   try clear p417
                                                   try clear p42
                                                   try clear p421
                                                   try clear p422
                                                   try clear p423
                                                   try clear p424
                                                   try clear p425
                                                   try clear p427
                                                   try clear p428
                                                   try clear p429
                                                   try clear p43
                                                   try clear p430
                                                   try clear p431
                                                   try clear p432
                                                   try clear p433
                                                   try clear p6
                                                   try clear q1
                                                   try clear q18
                                                   try clear q3
                                                   try clear q34
                                                   try clear q4
                                                   try clear q41
                                                   try clear q417
                                                   try clear q42
                                                   try clear q421
                                                   try clear q422
                                                   try clear q423
                                                   try clear q424
                                                   try clear q425
                                                   try clear q427
                                                   try clear q428
                                                   try clear q429
                                                   try clear q43
                                                   try clear q430
                                                   try clear q431
                                                   try clear q432
                                                   try clear q433
                                                   obtain ⟨kq, x162_50, rfl, HA, HJ50, HO_5, HO_6, HB⟩ := hcut
                                                   cases kq with
                                                   | zero => exact absurd HA.out (by simp [abugidalaw17_FormsNeighbours.j5])
                                                   | succ kj50 =>
                                                     have H := HA.out
                                                     clear HA
                                                     simp only [abugidalaw17_FormsNeighbours.j5] at H
                                                     by_cases c65 : x162_50 = true
                                                     · subst c65
                                                       have H1 : (some false) = some r := by rw [if_pos rfl] at H; exact H
                                                       clear H
                                                       have H := H1
                                                       clear H1
                                                       obtain rfl := Option.some.inj H
                                                       go_wp2
                                                       go_ret
                                                       exact ⟨by first | rfl | (simp [errW_none, errW_some] <;> rfl) | (simp only [← hji31]; first | rfl | (simp [errW_none, errW_some] <;> rfl)) | (simp [*, errW_none, errW_some] <;> rfl), by repeat (first | (with_reducible first | exact HB.out | apply below_alloc | apply pw_below_drewN | apply below_drew1) | exact HB.out)⟩
                                                     · replace c65 := Bool.eq_false_iff.mpr c65
                                                       subst c65
                                                       have H1 : (abugidalaw17_FormsNeighbours.l0 kj50 t409 t410 t411 t414 (wrap64 (x7_1 + 1))) = some r := by rw [if_neg (show ¬ (false = true) by decide)] at H; exact H
                                                       clear H
                                                       have H := H1
                                                       clear H1
                                                       have H' := Aside0.mk H
                                                       clear H
                                                       go_wp2
                                                       go_roundg kj50
                                                       case measure => have := HK1.out; have := HJ19.out; have := HJ24.out; have := HJ35.out; have := HJ41.out; have := HJ50.out; omega
                                                       case rel => exact ⟨(wrap64 (x7_1 + 1)), (by first | rfl | (simp; done) | (simp [*]; done)), H', ⟨by have := HK1.out; have := HJ19.out; have := HJ24.out; have := HJ35.out; have := HJ41.out; have := HJ50.out; omega⟩, ⟨by (with_reducible repeat (first | apply Kd.R_alloc | apply Kd.R_drewN | apply Kd.R_drew)); exact HO_5.out⟩, ⟨by (with_reducible repeat (first | apply Kd.R_alloc | apply Kd.R_drewN | apply Kd.R_drew)); exact HO_6.out⟩, ⟨by repeat (first | (with_reducible first | exact HB.out | apply below_alloc | apply pw_below_drewN | apply below_drew1) | exact HB.out)⟩⟩
                                · rw [if_neg c33] at H
                                  exact absurd H (by simp)
                              · rw [if_neg c32] at H
                                exact absurd H (by simp)
                            · rw [if_neg c30] at H
                              exact absurd H (by simp)
                          · rw [if_neg c29] at H
                            exact absurd H (by simp)
              · rw [if_neg c17] at H
                exact absurd H (by simp)
            · rw [if_neg c16] at H
              exact absurd H (by simp)
          · rw [if_neg c14] at H
            exact absurd H (by simp)
        · rw [if_neg c13] at H
          have c13b0 : decide (x7_1 < (t411.length : Int)) = false := decide_eq_false c13
          clear c13
          obtain rfl := Option.some.inj H
          go_wp2
          go_ret
          exact ⟨by first | rfl | (simp [errW_none, errW_some] <;> rfl) | (simp [*, errW_none, errW_some] <;> rfl), by repeat (first | (with_reducible first | exact HB.out | apply below_alloc | apply pw_below_drewN | apply below_drew1) | exact HB.out)⟩
  · rw [if_neg c6] at H
    have c6b0 : ((t414.length : Int) == (t411.length : Int)) = false := beq_eq_false_iff_ne.mpr c6
    have c6b1 : ((t414.length : Int) != (t411.length : Int)) = true := bne_iff_ne.mpr c6
    have c6b2 : (t414.length == t411.length) = false := by first | simpa using c6 | (simp at c6 ⊢; omega)
    obtain rfl := Option.some.inj H
    go_enter Try.func6, Try.ntmps6
    go_wp2_with (first | ((with_reducible refine gate_callee (f := 9) rfl ?_); refine goesL_ (some 13) rfl rfl Try.func9 (by kernel_rfl) rfl #[] rfl (by (try simp only [List.map_toArray, List.map_cons, List.map_nil]); first | done | rfl | (simp only [List.length_drop, List.length_take]; rfl)) ?_; (with_reducible refine (abugidalaw17_sanity.calls k  t409 _ A2.out).mono ?_); rintro e w66 ⟨rfl, hb⟩; refine ⟨_, rfl, ?_⟩; have n0_ := Aside0.mk (below_step (by repeat (first | (with_reducible first | exact HB.out | apply below_alloc | apply pw_below_drewN | apply below_drew1) | exact HB.out)) hb); clear HB; have HB := n0_; clear n0_; (try clear hb); (try clear hb2); (try clear hk); (try clear hi)) | ((with_reducible refine gate_callee (f := 10) rfl ?_); refine goesL_ (some 15) rfl rfl Try.func10 (by kernel_rfl) rfl #[.slice A0 l0.length c0, .int .i64 60] rfl (by (try simp only [List.map_toArray, List.map_cons, List.map_nil]); first | done | rfl | (simp only [List.length_drop, List.length_take]; rfl)) ?_; (with_reducible refine (abugidaref05_Text.calls k _ _ l0 60 t410 _ ?side1 ?side2 A3.out).mono ?_); (case side1 => repeat (first | exact (Kd.C_below HR0.out HB.out) | (with_reducible refine Kd.C_alloc ?_ _) | (with_reducible refine Kd.C_drewN ?_ _) | (with_reducible refine Kd.C_drew ?_))); (case side2 => exact HC0.out); rintro e w67 ⟨rfl, hb⟩; refine ⟨_, rfl, ?_⟩; have n0_ := Aside0.mk (below_step (by repeat (first | (with_reducible first | exact HB.out | apply below_alloc | apply pw_below_drewN | apply below_drew1) | exact HB.out)) hb); clear HB; have HB := n0_; clear n0_; (try clear hb); (try clear hb2); (try clear hk); (try clear hi)) | ((with_reducible refine gate_callee (f := 14) rfl ?_); refine goesL_ (some 17) rfl rfl Try.func14 (by kernel_rfl) rfl #[.string t410] rfl (by (try simp only [List.map_toArray, List.map_cons, List.map_nil]); first | done | rfl | (simp only [List.length_drop, List.length_take]; rfl)) ?_; (with_reducible refine (cluster_Split.calls t410 t411 _ A4.out).mono ?_); rintro e w68 ⟨v412, rfl, ho0, hb⟩; refine ⟨_, rfl, ?_⟩; have n0_ := Aside0.mk (Kd.R_lower ho0 (below_size (by repeat (first | (with_reducible first | exact HB.out | apply below_alloc | apply pw_below_drewN | apply below_drew1) | exact HB.out)))); have n1_ := Aside0.mk (below_step (by repeat (first | (with_reducible first | exact HB.out | apply below_alloc | apply pw_below_drewN | apply below_drew1) | exact HB.out)) hb); clear HB; have HO413 := n0_; have HB := n1_; clear n0_ n1_; (try clear hb); (try clear hb2); (try clear hk); (try clear hi); (try clear ho0)) | ((with_reducible refine gate_callee (f := 12) rfl ?_); refine goesL_ (some 19) rfl rfl Try.func12 (by kernel_rfl) rfl #[.string t410] rfl (by (try simp only [List.map_toArray, List.map_cons, List.map_nil]); first | done | rfl | (simp only [List.length_drop, List.length_take]; rfl)) ?_; (with_reducible refine (forms_Forms.calls k t410 t414 _ A5.out).mono ?_); rintro e w69 ⟨v415, rfl, ho0, hb⟩; refine ⟨_, rfl, ?_⟩; have n0_ := Aside0.mk (Kd.R_below (by (with_reducible repeat (first | apply Kd.R_alloc | apply Kd.R_drewN | apply Kd.R_drew)); exact HO413.out) hb); have n1_ := Aside0.mk (Kd.R_lower ho0 (below_size (by repeat (first | (with_reducible first | exact HB.out | apply below_alloc | apply pw_below_drewN | apply below_drew1) | exact HB.out)))); have n2_ := Aside0.mk (below_step (by repeat (first | (with_reducible first | exact HB.out | apply below_alloc | apply pw_below_drewN | apply below_drew1) | exact HB.out)) hb); clear HO413; clear HB; have HO413 := n0_; have HO416 := n1_; have HB := n2_; clear n0_ n1_ n2_; (try clear hb); (try clear hb2); (try clear hk); (try clear hi); (try clear ho0); obtain ⟨Ao70, co70, eo70⟩ := Kd.R_slice HO416.out; subst eo70; obtain ⟨Ao71, co71, eo71⟩ := Kd.R_slice HO413.out; subst eo71))
    go_ret
    exact ⟨by first | rfl | (simp [errW_none, errW_some] <;> rfl) | (simp [*, errW_none, errW_some] <;> rfl), by repeat (first | (with_reducible first | exact HB.out | apply below_alloc | apply pw_below_drewN | apply below_drew1) | exact HB.out)⟩

/-- THE ONE PURE STATEMENT of abugidalaw17_FormsNeighbours: yours. -/
def abugidalaw17_FormsNeighbours.Pure : Prop := ∀ (l0 : List Int), l0.length ≤ maxLen → l0.length * 8 ≤ 140737488351232 → (∀ x ∈ l0, (Lit.int .i64 x).wf = true) → ∃ k, abugidalaw17_FormsNeighbours.f k l0 = some true
theorem abugidalaw17_FormsNeighbours.walk (P : abugidalaw17_FormsNeighbours.Pure) (a0 : Option Addr) (len0 cap0 : Nat) (z0 : List Int) (w : World) (w0 : (a0 = none ∧ len0 = 0 ∧ cap0 = 0 ∧ z0 = []) ∨ ∃ x, a0 = some x ∧ len0 ≤ cap0 ∧ cap0 ≤ maxLen ∧ z0.length = cap0 ∧ (∀ i, i < z0.length → w.cell? (x.add i) = some (.int .i64 (z0.getD i 0))) ∧ ∀ n ∈ z0, (Lit.int .i64 n).wf = true) (y0 : len0 * 8 ≤ 140737488351232) :
    Calls Try.prog 6 #[.slice a0 len0 cap0] w fun e w' => e = .returned (.bool true) ∧ Below w.heap.size w w' := by
  obtain ⟨l0, rfl, hr0, hm0, hw0, hc0⟩ := ReadsInt.ofRowC w0
  obtain ⟨k, h⟩ := P l0 hm0 y0 hw0
  refine (abugidalaw17_FormsNeighbours.calls k _ _ l0 true w (Kd.C_of_reads (d := (0 : Int)) (h1 := fun _ => rfl) hr0) hc0 h).mono ?_
  rintro e w' ⟨rfl, hd⟩
  exact ⟨rfl, hd⟩

end Go.Proofs.Ytgpdieogkcnfeaa.Q

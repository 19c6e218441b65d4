-- Written by wip/tools/myprint.py, a program of this session that drives the kit's print.py; not a text of print.sh.
import Derived.Test.YtngdddgoplmlbaaQx0
import Derived.Test.YtngdddgoplmlbaaQx2
import Derived.Test.YtngdddgoplmlbaaQx3
import Derived.Test.YtngdddgoplmlbaaQx7
namespace Go.Proofs.Ytngdddgoplmlbaa.Q
open Go.RowKit Go.Proofs.YtngdddgoplmlbaaW.PrintWords Go.Proofs.YtngdddgoplmlbaaW.PrintLast Go.Proofs.YtngdddgoplmlbaaW.PrintMore
attribute [local go_sem] max2_int min2_int max_two min_two max_three min_three max_four min_four   -- for this text's walks alone
set_option linter.unusedVariables false
set_option linter.unusedSimpArgs false

/-! ### abugidalaw06_ClusterBelongs: function 6 -/
mutual
def abugidalaw06_ClusterBelongs.l0 : Nat → Bool → ByteArray → List (S30) → List (S30) → Int → Int → Option (Bool)
  | 0, _, _, _, _, _, _ => none
  | k + 1, x3, x4, x5, x18, x19, x20 => if x20 < x19 then (if 0 ≤ x20 then (if x20 < (x18.length : Int) then (if ((rd_T30 x18 x20).f0) < 0 then (abugidalaw06_ClusterBelongs.j1 k x3 x4 x5 x20 x18 x19 x20 true ((rd_T30 x18 x20).f0) ((rd_T30 x18 x20).f1)) else (if ((rd_T30 x18 x20).f0) ≥ ((rd_T30 x18 x20).f1) then (abugidalaw06_ClusterBelongs.j1 k x3 x4 x5 x20 x18 x19 x20 true ((rd_T30 x18 x20).f0) ((rd_T30 x18 x20).f1)) else (abugidalaw06_ClusterBelongs.j1 k x3 x4 x5 x20 x18 x19 x20 (decide (((rd_T30 x18 x20).f1) > (x4.size : Int))) ((rd_T30 x18 x20).f0) ((rd_T30 x18 x20).f1)))) else (none)) else (none)) else (some x3)
def abugidalaw06_ClusterBelongs.j1 : Nat → Bool → ByteArray → List (S30) → Int → List (S30) → Int → Int → Bool → Int → Int → Option (Bool)
  | 0, _, _, _, _, _, _, _, _, _, _ => none
  | k + 1, x3, x4, x5, x6, x18, x19, x20, x41, x249000, x249001 => if x41 = true then (some false) else (abugidalaw06_ClusterBelongs.l1 k x3 x4 x5 x6 x249000 x18 x19 x20 x249000 x249001)
def abugidalaw06_ClusterBelongs.l1 : Nat → Bool → ByteArray → List (S30) → Int → Int → List (S30) → Int → Int → Int → Int → Option (Bool)
  | 0, _, _, _, _, _, _, _, _, _, _ => none
  | k + 1, x3, x4, x5, x6, x8, x18, x19, x20, x249000, x249001 => if x8 < x249001 then (if 0 ≤ x8 then (if x8 < (x4.size : Int) then ((chars_Class.f k (wrap64 (bt x4 x8))).bind fun t249 => (if x8 > 0 then (if 0 ≤ (wrap64 (x8 - 1)) then (if (wrap64 (x8 - 1)) < (x4.size : Int) then ((chars_Class.f k (wrap64 (bt x4 (wrap64 (x8 - 1))))).bind fun t250 => (abugidalaw06_ClusterBelongs.j3 k x3 x4 x5 x6 x8 t249 (t250 == 1) x18 x19 x20 x249000 x249001)) else (none)) else (none)) else (abugidalaw06_ClusterBelongs.j3 k x3 x4 x5 x6 x8 t249 false x18 x19 x20 x249000 x249001))) else (none)) else (none)) else (abugidalaw06_ClusterBelongs.l0 k x3 x4 x5 x18 x19 (wrap64 (x20 + 1)))
def abugidalaw06_ClusterBelongs.j3 : Nat → Bool → ByteArray → List (S30) → Int → Int → Int → Bool → List (S30) → Int → Int → Int → Int → Option (Bool)
  | 0, _, _, _, _, _, _, _, _, _, _, _, _ => none
  | k + 1, x3, x4, x5, x6, x8, x9, x10, x18, x19, x20, x249000, x249001 => if 0 ≤ x8 then (if x8 < (x4.size : Int) then ((chars_Extends.f k (wrap64 (bt x4 x8))).bind fun t251 => (if t251 = true then (abugidalaw06_ClusterBelongs.j4 k x3 x4 x5 x6 x8 x10 true x18 x19 x20 x249000 x249001) else (if x9 = 9 then (if x8 > 0 then (if 0 ≤ (wrap64 (x8 - 1)) then (if (wrap64 (x8 - 1)) < (x4.size : Int) then ((chars_Class.f k (wrap64 (bt x4 (wrap64 (x8 - 1))))).bind fun t252 => (abugidalaw06_ClusterBelongs.j4 k x3 x4 x5 x6 x8 x10 (t252 == 10) x18 x19 x20 x249000 x249001)) else (none)) else (none)) else (abugidalaw06_ClusterBelongs.j4 k x3 x4 x5 x6 x8 x10 false x18 x19 x20 x249000 x249001)) else (abugidalaw06_ClusterBelongs.j4 k x3 x4 x5 x6 x8 x10 false x18 x19 x20 x249000 x249001)))) else (none)) else (none)
def abugidalaw06_ClusterBelongs.j4 : Nat → Bool → ByteArray → List (S30) → Int → Int → Bool → Bool → List (S30) → Int → Int → Int → Int → Option (Bool)
  | 0, _, _, _, _, _, _, _, _, _, _, _, _ => none
  | k + 1, x3, x4, x5, x6, x8, x10, x11, x18, x19, x20, x249000, x249001 => if x6 > 0 then (if 0 ≤ (wrap64 (x6 - 1)) then (if (wrap64 (x6 - 1)) < (x5.length : Int) then (abugidalaw06_ClusterBelongs.j5 k x3 x4 x5 x6 x8 x10 x11 ((wrap64 (((rd_T30 x5 (wrap64 (x6 - 1))).f1) - ((rd_T30 x5 (wrap64 (x6 - 1))).f0))) == 6) x18 x19 x20 x249000 x249001) else (none)) else (none)) else (abugidalaw06_ClusterBelongs.j5 k x3 x4 x5 x6 x8 x10 x11 false x18 x19 x20 x249000 x249001)
def abugidalaw06_ClusterBelongs.j5 : Nat → Bool → ByteArray → List (S30) → Int → Int → Bool → Bool → Bool → List (S30) → Int → Int → Int → Int → Option (Bool)
  | 0, _, _, _, _, _, _, _, _, _, _, _, _, _ => none
  | k + 1, x3, x4, x5, x6, x8, x10, x11, x12, x18, x19, x20, x249000, x249001 => if x8 > x249000 then (if x11 = true then (if x10 = true then (abugidalaw06_ClusterBelongs.j6 k x3 x4 x5 x6 x8 x18 x19 x20 true x249000 x249001) else (if x8 = x249000 then (if x8 > 0 then (abugidalaw06_ClusterBelongs.j6 k x3 x4 x5 x6 x8 x18 x19 x20 (!x12) x249000 x249001) else (abugidalaw06_ClusterBelongs.j6 k x3 x4 x5 x6 x8 x18 x19 x20 false x249000 x249001)) else (abugidalaw06_ClusterBelongs.j6 k x3 x4 x5 x6 x8 x18 x19 x20 false x249000 x249001))) else (abugidalaw06_ClusterBelongs.j6 k x3 x4 x5 x6 x8 x18 x19 x20 true x249000 x249001)) else (if x8 = x249000 then (if x11 = true then (if x8 > 0 then (if x10 = true then (abugidalaw06_ClusterBelongs.j6 k x3 x4 x5 x6 x8 x18 x19 x20 false x249000 x249001) else (abugidalaw06_ClusterBelongs.j6 k x3 x4 x5 x6 x8 x18 x19 x20 (!x12) x249000 x249001)) else (abugidalaw06_ClusterBelongs.j6 k x3 x4 x5 x6 x8 x18 x19 x20 false x249000 x249001)) else (abugidalaw06_ClusterBelongs.j6 k x3 x4 x5 x6 x8 x18 x19 x20 false x249000 x249001)) else (abugidalaw06_ClusterBelongs.j6 k x3 x4 x5 x6 x8 x18 x19 x20 false x249000 x249001))
def abugidalaw06_ClusterBelongs.j6 : Nat → Bool → ByteArray → List (S30) → Int → Int → List (S30) → Int → Int → Bool → Int → Int → Option (Bool)
  | 0, _, _, _, _, _, _, _, _, _, _, _ => none
  | k + 1, x3, x4, x5, x6, x8, x18, x19, x20, x137, x249000, x249001 => if x137 = true then (some false) else (abugidalaw06_ClusterBelongs.l1 k x3 x4 x5 x6 (wrap64 (x8 + 1)) x18 x19 x20 x249000 x249001)
end
def abugidalaw06_ClusterBelongs.f (k : Nat) (l0 : List Int) : Option (Bool) := (abugidalaw06_sanity.f k).bind fun t242 => ((abugidaref06_Made.f k l0 60).bind fun t243 => ((cluster_Split.f t243).bind fun t244 => (abugidalaw06_ClusterBelongs.l0 k t242 t243 t244 t244 (t244.length : Int) 0)))
theorem abugidalaw06_ClusterBelongs.mono_l : ∀ k, (∀ y0 y1 y2 y3 y4 y5, LeO (abugidalaw06_ClusterBelongs.l0 k y0 y1 y2 y3 y4 y5) (abugidalaw06_ClusterBelongs.l0 (k + 1) y0 y1 y2 y3 y4 y5)) ∧ (∀ y0 y1 y2 y3 y4 y5 y6 y7 y8 y9, LeO (abugidalaw06_ClusterBelongs.j1 k y0 y1 y2 y3 y4 y5 y6 y7 y8 y9) (abugidalaw06_ClusterBelongs.j1 (k + 1) y0 y1 y2 y3 y4 y5 y6 y7 y8 y9)) ∧ (∀ y0 y1 y2 y3 y4 y5 y6 y7 y8 y9, LeO (abugidalaw06_ClusterBelongs.l1 k y0 y1 y2 y3 y4 y5 y6 y7 y8 y9) (abugidalaw06_ClusterBelongs.l1 (k + 1) y0 y1 y2 y3 y4 y5 y6 y7 y8 y9)) ∧ (∀ y0 y1 y2 y3 y4 y5 y6 y7 y8 y9 y10 y11, LeO (abugidalaw06_ClusterBelongs.j3 k y0 y1 y2 y3 y4 y5 y6 y7 y8 y9 y10 y11) (abugidalaw06_ClusterBelongs.j3 (k + 1) y0 y1 y2 y3 y4 y5 y6 y7 y8 y9 y10 y11)) ∧ (∀ y0 y1 y2 y3 y4 y5 y6 y7 y8 y9 y10 y11, LeO (abugidalaw06_ClusterBelongs.j4 k y0 y1 y2 y3 y4 y5 y6 y7 y8 y9 y10 y11) (abugidalaw06_ClusterBelongs.j4 (k + 1) y0 y1 y2 y3 y4 y5 y6 y7 y8 y9 y10 y11)) ∧ (∀ y0 y1 y2 y3 y4 y5 y6 y7 y8 y9 y10 y11 y12, LeO (abugidalaw06_ClusterBelongs.j5 k y0 y1 y2 y3 y4 y5 y6 y7 y8 y9 y10 y11 y12) (abugidalaw06_ClusterBelongs.j5 (k + 1) y0 y1 y2 y3 y4 y5 y6 y7 y8 y9 y10 y11 y12)) ∧ (∀ y0 y1 y2 y3 y4 y5 y6 y7 y8 y9 y10, LeO (abugidalaw06_ClusterBelongs.j6 k y0 y1 y2 y3 y4 y5 y6 y7 y8 y9 y10) (abugidalaw06_ClusterBelongs.j6 (k + 1) y0 y1 y2 y3 y4 y5 y6 y7 y8 y9 y10))
  | 0 => ⟨fun _ _ _ _ _ _ r h => by simp [abugidalaw06_ClusterBelongs.l0] at h, fun _ _ _ _ _ _ _ _ _ _ r h => by simp [abugidalaw06_ClusterBelongs.j1] at h, fun _ _ _ _ _ _ _ _ _ _ r h => by simp [abugidalaw06_ClusterBelongs.l1] at h, fun _ _ _ _ _ _ _ _ _ _ _ _ r h => by simp [abugidalaw06_ClusterBelongs.j3] at h, fun _ _ _ _ _ _ _ _ _ _ _ _ r h => by simp [abugidalaw06_ClusterBelongs.j4] at h, fun _ _ _ _ _ _ _ _ _ _ _ _ _ r h => by simp [abugidalaw06_ClusterBelongs.j5] at h, fun _ _ _ _ _ _ _ _ _ _ _ r h => by simp [abugidalaw06_ClusterBelongs.j6] at h⟩
  | k + 1 => by
    obtain ⟨ih0, ih1, ih2, ih3, ih4, ih5, ih6⟩ := abugidalaw06_ClusterBelongs.mono_l k
    refine ⟨?_, ?_, ?_, ?_, ?_, ?_, ?_⟩
    · intro y0 y1 y2 y3 y4 y5
      unfold abugidalaw06_ClusterBelongs.l0
      repeat' first
      | (with_reducible exact ih0 _ _ _ _ _ _)
      | (with_reducible exact ih1 _ _ _ _ _ _ _ _ _ _)
      | (with_reducible exact ih2 _ _ _ _ _ _ _ _ _ _)
      | (with_reducible exact ih3 _ _ _ _ _ _ _ _ _ _ _ _)
      | (with_reducible exact ih4 _ _ _ _ _ _ _ _ _ _ _ _)
      | (with_reducible exact ih5 _ _ _ _ _ _ _ _ _ _ _ _ _)
      | (with_reducible exact ih6 _ _ _ _ _ _ _ _ _ _ _)
      | (with_reducible exact abugidalaw06_sanity.mono _)
      | (with_reducible exact abugidaref06_Made.mono _ _ _)
      | (with_reducible exact chars_Class.mono _ _)
      | (with_reducible exact chars_Extends.mono _ _)
      | (with_reducible exact LeO.refl _)
      | (with_reducible exact LeO.none _)
      | (with_reducible refine LeO.ite ?_ ?_)
      | (with_reducible refine LeO.bind ?_ (fun _ => ?_))
      | exact ih0 _ _ _ _ _ _
      | exact ih1 _ _ _ _ _ _ _ _ _ _
      | exact ih2 _ _ _ _ _ _ _ _ _ _
      | exact ih3 _ _ _ _ _ _ _ _ _ _ _ _
      | exact ih4 _ _ _ _ _ _ _ _ _ _ _ _
      | exact ih5 _ _ _ _ _ _ _ _ _ _ _ _ _
      | exact ih6 _ _ _ _ _ _ _ _ _ _ _
      | exact abugidalaw06_sanity.mono _
      | exact abugidaref06_Made.mono _ _ _
      | exact chars_Class.mono _ _
      | exact chars_Extends.mono _ _
      | exact LeO.none _
      | refine LeO.ite ?_ ?_
      | refine LeO.bind ?_ (fun _ => ?_)
    · intro y0 y1 y2 y3 y4 y5 y6 y7 y8 y9
      unfold abugidalaw06_ClusterBelongs.j1
      repeat' first
      | (with_reducible exact ih0 _ _ _ _ _ _)
      | (with_reducible exact ih1 _ _ _ _ _ _ _ _ _ _)
      | (with_reducible exact ih2 _ _ _ _ _ _ _ _ _ _)
      | (with_reducible exact ih3 _ _ _ _ _ _ _ _ _ _ _ _)
      | (with_reducible exact ih4 _ _ _ _ _ _ _ _ _ _ _ _)
      | (with_reducible exact ih5 _ _ _ _ _ _ _ _ _ _ _ _ _)
      | (with_reducible exact ih6 _ _ _ _ _ _ _ _ _ _ _)
      | (with_reducible exact abugidalaw06_sanity.mono _)
      | (with_reducible exact abugidaref06_Made.mono _ _ _)
      | (with_reducible exact chars_Class.mono _ _)
      | (with_reducible exact chars_Extends.mono _ _)
      | (with_reducible exact LeO.refl _)
      | (with_reducible exact LeO.none _)
      | (with_reducible refine LeO.ite ?_ ?_)
      | (with_reducible refine LeO.bind ?_ (fun _ => ?_))
      | exact ih0 _ _ _ _ _ _
      | exact ih1 _ _ _ _ _ _ _ _ _ _
      | exact ih2 _ _ _ _ _ _ _ _ _ _
      | exact ih3 _ _ _ _ _ _ _ _ _ _ _ _
      | exact ih4 _ _ _ _ _ _ _ _ _ _ _ _
      | exact ih5 _ _ _ _ _ _ _ _ _ _ _ _ _
      | exact ih6 _ _ _ _ _ _ _ _ _ _ _
      | exact abugidalaw06_sanity.mono _
      | exact abugidaref06_Made.mono _ _ _
      | exact chars_Class.mono _ _
      | exact chars_Extends.mono _ _
      | exact LeO.none _
      | refine LeO.ite ?_ ?_
      | refine LeO.bind ?_ (fun _ => ?_)
    · intro y0 y1 y2 y3 y4 y5 y6 y7 y8 y9
      unfold abugidalaw06_ClusterBelongs.l1
      repeat' first
      | (with_reducible exact ih0 _ _ _ _ _ _)
      | (with_reducible exact ih1 _ _ _ _ _ _ _ _ _ _)
      | (with_reducible exact ih2 _ _ _ _ _ _ _ _ _ _)
      | (with_reducible exact ih3 _ _ _ _ _ _ _ _ _ _ _ _)
      | (with_reducible exact ih4 _ _ _ _ _ _ _ _ _ _ _ _)
      | (with_reducible exact ih5 _ _ _ _ _ _ _ _ _ _ _ _ _)
      | (with_reducible exact ih6 _ _ _ _ _ _ _ _ _ _ _)
      | (with_reducible exact abugidalaw06_sanity.mono _)
      | (with_reducible exact abugidaref06_Made.mono _ _ _)
      | (with_reducible exact chars_Class.mono _ _)
      | (with_reducible exact chars_Extends.mono _ _)
      | (with_reducible exact LeO.refl _)
      | (with_reducible exact LeO.none _)
      | (with_reducible refine LeO.ite ?_ ?_)
      | (with_reducible refine LeO.bind ?_ (fun _ => ?_))
      | exact ih0 _ _ _ _ _ _
      | exact ih1 _ _ _ _ _ _ _ _ _ _
      | exact ih2 _ _ _ _ _ _ _ _ _ _
      | exact ih3 _ _ _ _ _ _ _ _ _ _ _ _
      | exact ih4 _ _ _ _ _ _ _ _ _ _ _ _
      | exact ih5 _ _ _ _ _ _ _ _ _ _ _ _ _
      | exact ih6 _ _ _ _ _ _ _ _ _ _ _
      | exact abugidalaw06_sanity.mono _
      | exact abugidaref06_Made.mono _ _ _
      | exact chars_Class.mono _ _
      | exact chars_Extends.mono _ _
      | exact LeO.none _
      | refine LeO.ite ?_ ?_
      | refine LeO.bind ?_ (fun _ => ?_)
    · intro y0 y1 y2 y3 y4 y5 y6 y7 y8 y9 y10 y11
      unfold abugidalaw06_ClusterBelongs.j3
      repeat' first
      | (with_reducible exact ih0 _ _ _ _ _ _)
      | (with_reducible exact ih1 _ _ _ _ _ _ _ _ _ _)
      | (with_reducible exact ih2 _ _ _ _ _ _ _ _ _ _)
      | (with_reducible exact ih3 _ _ _ _ _ _ _ _ _ _ _ _)
      | (with_reducible exact ih4 _ _ _ _ _ _ _ _ _ _ _ _)
      | (with_reducible exact ih5 _ _ _ _ _ _ _ _ _ _ _ _ _)
      | (with_reducible exact ih6 _ _ _ _ _ _ _ _ _ _ _)
      | (with_reducible exact abugidalaw06_sanity.mono _)
      | (with_reducible exact abugidaref06_Made.mono _ _ _)
      | (with_reducible exact chars_Class.mono _ _)
      | (with_reducible exact chars_Extends.mono _ _)
      | (with_reducible exact LeO.refl _)
      | (with_reducible exact LeO.none _)
      | (with_reducible refine LeO.ite ?_ ?_)
      | (with_reducible refine LeO.bind ?_ (fun _ => ?_))
      | exact ih0 _ _ _ _ _ _
      | exact ih1 _ _ _ _ _ _ _ _ _ _
      | exact ih2 _ _ _ _ _ _ _ _ _ _
      | exact ih3 _ _ _ _ _ _ _ _ _ _ _ _
      | exact ih4 _ _ _ _ _ _ _ _ _ _ _ _
      | exact ih5 _ _ _ _ _ _ _ _ _ _ _ _ _
      | exact ih6 _ _ _ _ _ _ _ _ _ _ _
      | exact abugidalaw06_sanity.mono _
      | exact abugidaref06_Made.mono _ _ _
      | exact chars_Class.mono _ _
      | exact chars_Extends.mono _ _
      | exact LeO.none _
      | refine LeO.ite ?_ ?_
      | refine LeO.bind ?_ (fun _ => ?_)
    · intro y0 y1 y2 y3 y4 y5 y6 y7 y8 y9 y10 y11
      unfold abugidalaw06_ClusterBelongs.j4
      repeat' first
      | (with_reducible exact ih0 _ _ _ _ _ _)
      | (with_reducible exact ih1 _ _ _ _ _ _ _ _ _ _)
      | (with_reducible exact ih2 _ _ _ _ _ _ _ _ _ _)
      | (with_reducible exact ih3 _ _ _ _ _ _ _ _ _ _ _ _)
      | (with_reducible exact ih4 _ _ _ _ _ _ _ _ _ _ _ _)
      | (with_reducible exact ih5 _ _ _ _ _ _ _ _ _ _ _ _ _)
      | (with_reducible exact ih6 _ _ _ _ _ _ _ _ _ _ _)
      | (with_reducible exact abugidalaw06_sanity.mono _)
      | (with_reducible exact abugidaref06_Made.mono _ _ _)
      | (with_reducible exact chars_Class.mono _ _)
      | (with_reducible exact chars_Extends.mono _ _)
      | (with_reducible exact LeO.refl _)
      | (with_reducible exact LeO.none _)
      | (with_reducible refine LeO.ite ?_ ?_)
      | (with_reducible refine LeO.bind ?_ (fun _ => ?_))
      | exact ih0 _ _ _ _ _ _
      | exact ih1 _ _ _ _ _ _ _ _ _ _
      | exact ih2 _ _ _ _ _ _ _ _ _ _
      | exact ih3 _ _ _ _ _ _ _ _ _ _ _ _
      | exact ih4 _ _ _ _ _ _ _ _ _ _ _ _
      | exact ih5 _ _ _ _ _ _ _ _ _ _ _ _ _
      | exact ih6 _ _ _ _ _ _ _ _ _ _ _
      | exact abugidalaw06_sanity.mono _
      | exact abugidaref06_Made.mono _ _ _
      | exact chars_Class.mono _ _
      | exact chars_Extends.mono _ _
      | exact LeO.none _
      | refine LeO.ite ?_ ?_
      | refine LeO.bind ?_ (fun _ => ?_)
    · intro y0 y1 y2 y3 y4 y5 y6 y7 y8 y9 y10 y11 y12
      unfold abugidalaw06_ClusterBelongs.j5
      repeat' first
      | (with_reducible exact ih0 _ _ _ _ _ _)
      | (with_reducible exact ih1 _ _ _ _ _ _ _ _ _ _)
      | (with_reducible exact ih2 _ _ _ _ _ _ _ _ _ _)
      | (with_reducible exact ih3 _ _ _ _ _ _ _ _ _ _ _ _)
      | (with_reducible exact ih4 _ _ _ _ _ _ _ _ _ _ _ _)
      | (with_reducible exact ih5 _ _ _ _ _ _ _ _ _ _ _ _ _)
      | (with_reducible exact ih6 _ _ _ _ _ _ _ _ _ _ _)
      | (with_reducible exact abugidalaw06_sanity.mono _)
      | (with_reducible exact abugidaref06_Made.mono _ _ _)
      | (with_reducible exact chars_Class.mono _ _)
      | (with_reducible exact chars_Extends.mono _ _)
      | (with_reducible exact LeO.refl _)
      | (with_reducible exact LeO.none _)
      | (with_reducible refine LeO.ite ?_ ?_)
      | (with_reducible refine LeO.bind ?_ (fun _ => ?_))
      | exact ih0 _ _ _ _ _ _
      | exact ih1 _ _ _ _ _ _ _ _ _ _
      | exact ih2 _ _ _ _ _ _ _ _ _ _
      | exact ih3 _ _ _ _ _ _ _ _ _ _ _ _
      | exact ih4 _ _ _ _ _ _ _ _ _ _ _ _
      | exact ih5 _ _ _ _ _ _ _ _ _ _ _ _ _
      | exact ih6 _ _ _ _ _ _ _ _ _ _ _
      | exact abugidalaw06_sanity.mono _
      | exact abugidaref06_Made.mono _ _ _
      | exact chars_Class.mono _ _
      | exact chars_Extends.mono _ _
      | exact LeO.none _
      | refine LeO.ite ?_ ?_
      | refine LeO.bind ?_ (fun _ => ?_)
    · intro y0 y1 y2 y3 y4 y5 y6 y7 y8 y9 y10
      unfold abugidalaw06_ClusterBelongs.j6
      repeat' first
      | (with_reducible exact ih0 _ _ _ _ _ _)
      | (with_reducible exact ih1 _ _ _ _ _ _ _ _ _ _)
      | (with_reducible exact ih2 _ _ _ _ _ _ _ _ _ _)
      | (with_reducible exact ih3 _ _ _ _ _ _ _ _ _ _ _ _)
      | (with_reducible exact ih4 _ _ _ _ _ _ _ _ _ _ _ _)
      | (with_reducible exact ih5 _ _ _ _ _ _ _ _ _ _ _ _ _)
      | (with_reducible exact ih6 _ _ _ _ _ _ _ _ _ _ _)
      | (with_reducible exact abugidalaw06_sanity.mono _)
      | (with_reducible exact abugidaref06_Made.mono _ _ _)
      | (with_reducible exact chars_Class.mono _ _)
      | (with_reducible exact chars_Extends.mono _ _)
      | (with_reducible exact LeO.refl _)
      | (with_reducible exact LeO.none _)
      | (with_reducible refine LeO.ite ?_ ?_)
      | (with_reducible refine LeO.bind ?_ (fun _ => ?_))
      | exact ih0 _ _ _ _ _ _
      | exact ih1 _ _ _ _ _ _ _ _ _ _
      | exact ih2 _ _ _ _ _ _ _ _ _ _
      | exact ih3 _ _ _ _ _ _ _ _ _ _ _ _
      | exact ih4 _ _ _ _ _ _ _ _ _ _ _ _
      | exact ih5 _ _ _ _ _ _ _ _ _ _ _ _ _
      | exact ih6 _ _ _ _ _ _ _ _ _ _ _
      | exact abugidalaw06_sanity.mono _
      | exact abugidaref06_Made.mono _ _ _
      | exact chars_Class.mono _ _
      | exact chars_Extends.mono _ _
      | exact LeO.none _
      | refine LeO.ite ?_ ?_
      | refine LeO.bind ?_ (fun _ => ?_)
theorem abugidalaw06_ClusterBelongs.mono : ∀ a0 k, LeO (abugidalaw06_ClusterBelongs.f k a0) (abugidalaw06_ClusterBelongs.f (k + 1) a0) := by
  intro a0 k
  obtain ⟨ih0, ih1, ih2, ih3, ih4, ih5, ih6⟩ := abugidalaw06_ClusterBelongs.mono_l k
  unfold abugidalaw06_ClusterBelongs.f
  repeat' first
      | (with_reducible exact ih0 _ _ _ _ _ _)
      | (with_reducible exact ih1 _ _ _ _ _ _ _ _ _ _)
      | (with_reducible exact ih2 _ _ _ _ _ _ _ _ _ _)
      | (with_reducible exact ih3 _ _ _ _ _ _ _ _ _ _ _ _)
      | (with_reducible exact ih4 _ _ _ _ _ _ _ _ _ _ _ _)
      | (with_reducible exact ih5 _ _ _ _ _ _ _ _ _ _ _ _ _)
      | (with_reducible exact ih6 _ _ _ _ _ _ _ _ _ _ _)
      | (with_reducible exact abugidalaw06_sanity.mono _)
      | (with_reducible exact abugidaref06_Made.mono _ _ _)
      | (with_reducible exact chars_Class.mono _ _)
      | (with_reducible exact chars_Extends.mono _ _)
      | (with_reducible exact LeO.refl _)
      | (with_reducible exact LeO.none _)
      | (with_reducible refine LeO.ite ?_ ?_)
      | (with_reducible refine LeO.bind ?_ (fun _ => ?_))
      | exact ih0 _ _ _ _ _ _
      | exact ih1 _ _ _ _ _ _ _ _ _ _
      | exact ih2 _ _ _ _ _ _ _ _ _ _
      | exact ih3 _ _ _ _ _ _ _ _ _ _ _ _
      | exact ih4 _ _ _ _ _ _ _ _ _ _ _ _
      | exact ih5 _ _ _ _ _ _ _ _ _ _ _ _ _
      | exact ih6 _ _ _ _ _ _ _ _ _ _ _
      | exact abugidalaw06_sanity.mono _
      | exact abugidaref06_Made.mono _ _ _
      | exact chars_Class.mono _ _
      | exact chars_Extends.mono _ _
      | exact LeO.none _
      | refine LeO.ite ?_ ?_
      | refine LeO.bind ?_ (fun _ => ?_)
set_option maxHeartbeats 8000000 in
set_option maxRecDepth 100000 in
theorem abugidalaw06_ClusterBelongs.calls (k : Nat) (A0 : Option Addr) (c0 : Nat) (l0 : List Int) (r : Bool) (w : World) (hr0 : Kd.C (Kd.int .i64) w A0 l0.length l0) (hc0 : l0.length ≤ c0) (h : abugidalaw06_ClusterBelongs.f k l0 = some r) :
    Calls Try.prog 6 #[.slice A0 l0.length c0] w fun e w' => e = .returned (.bool r) ∧ Below w.heap.size w w' := by
  have hu30 := Try.underlying30
  have HR0 := Aside0.mk hr0
  have HC0 := Aside0.mk hc0
  clear hr0 hc0
  have HB := Aside0.mk (Below.refl w.heap.size w)
  have H : ((abugidalaw06_sanity.f k).bind fun t242 => ((abugidaref06_Made.f k l0 60).bind fun t243 => ((cluster_Split.f t243).bind fun t244 => (abugidalaw06_ClusterBelongs.l0 k t242 t243 t244 t244 (t244.length : Int) 0)))) = some r := h
  clear h
  replace H := Option.bind_eq_some_iff.mp H
  obtain ⟨t242, A20, H⟩ := H
  replace H : ((abugidaref06_Made.f k l0 60).bind fun t243 => ((cluster_Split.f t243).bind fun t244 => (abugidalaw06_ClusterBelongs.l0 k t242 t243 t244 t244 (t244.length : Int) 0))) = some r := H
  have A2 := Aside0.mk A20
  clear A20
  replace H := Option.bind_eq_some_iff.mp H
  obtain ⟨t243, A30, H⟩ := H
  replace H : ((cluster_Split.f t243).bind fun t244 => (abugidalaw06_ClusterBelongs.l0 k t242 t243 t244 t244 (t244.length : Int) 0)) = some r := H
  have A3 := Aside0.mk A30
  clear A30
  replace H := Option.bind_eq_some_iff.mp H
  obtain ⟨t244, A40, H⟩ := H
  replace H : (abugidalaw06_ClusterBelongs.l0 k t242 t243 t244 t244 (t244.length : Int) 0) = some r := H
  have A4 := Aside0.mk A40
  clear A40
  have H' := Aside0.mk H
  clear H
  go_enter Try.func6, Try.ntmps6
  go_wp2_with (first | (go_at_call 10; (with_reducible refine (abugidalaw06_sanity.calls k  t242 _ A2.out).mono ?_); rintro e w5 ⟨rfl, hb⟩; have n0_ := Aside0.mk (below_step (by repeat (first | (with_reducible first | exact HB.out | apply below_alloc | apply pw_below_drewN | apply below_drew1) | exact HB.out)) hb); clear HB; have HB := n0_; clear n0_; (try clear hb); (try clear hb2); (try clear hk); (try clear hi)) | (go_at_call 11; (with_reducible refine (abugidaref06_Made.calls k _ _ l0 60 t243 _ ?side1 ?side2 A3.out).mono ?_); (case side1 => repeat (first | exact (Kd.C_below HR0.out HB.out) | (with_reducible refine Kd.C_alloc ?_ _) | (with_reducible refine Kd.C_drewN ?_ _) | (with_reducible refine Kd.C_drew ?_))); (case side2 => exact HC0.out); rintro e w6 ⟨rfl, hb⟩; have n0_ := Aside0.mk (below_step (by repeat (first | (with_reducible first | exact HB.out | apply below_alloc | apply pw_below_drewN | apply below_drew1) | exact HB.out)) hb); clear HB; have HB := n0_; clear n0_; (try clear hb); (try clear hb2); (try clear hk); (try clear hi)) | (go_at_call 13; (with_reducible refine (cluster_Split.calls t243 t244 _ A4.out).mono ?_); rintro e w7 ⟨v245, rfl, ho0, hb⟩; have n0_ := Aside0.mk (Kd.R_lower ho0 (below_size (by repeat (first | (with_reducible first | exact HB.out | apply below_alloc | apply pw_below_drewN | apply below_drew1) | exact HB.out)))); have n1_ := Aside0.mk (below_step (by repeat (first | (with_reducible first | exact HB.out | apply below_alloc | apply pw_below_drewN | apply below_drew1) | exact HB.out)) hb); clear HB; have HO246 := n0_; have HB := n1_; clear n0_ n1_; (try clear hb); (try clear hb2); (try clear hk); (try clear hi); (try clear ho0); obtain ⟨Ao8, co8, eo8⟩ := Kd.R_slice HO246.out; subst eo8))
  repeat (go_quiet (first | (go_at_call 10; (with_reducible refine (abugidalaw06_sanity.calls k  t242 _ A2.out).mono ?_); rintro e w5 ⟨rfl, hb⟩; have n0_ := Aside0.mk (below_step (by repeat (first | (with_reducible first | exact HB.out | apply below_alloc | apply pw_below_drewN | apply below_drew1) | exact HB.out)) hb); clear HB; have HB := n0_; clear n0_; (try clear hb); (try clear hb2); (try clear hk); (try clear hi)) | (go_at_call 11; (with_reducible refine (abugidaref06_Made.calls k _ _ l0 60 t243 _ ?side1 ?side2 A3.out).mono ?_); (case side1 => repeat (first | exact (Kd.C_below HR0.out HB.out) | (with_reducible refine Kd.C_alloc ?_ _) | (with_reducible refine Kd.C_drewN ?_ _) | (with_reducible refine Kd.C_drew ?_))); (case side2 => exact HC0.out); rintro e w6 ⟨rfl, hb⟩; have n0_ := Aside0.mk (below_step (by repeat (first | (with_reducible first | exact HB.out | apply below_alloc | apply pw_below_drewN | apply below_drew1) | exact HB.out)) hb); clear HB; have HB := n0_; clear n0_; (try clear hb); (try clear hb2); (try clear hk); (try clear hi)) | (go_at_call 13; (with_reducible refine (cluster_Split.calls t243 t244 _ A4.out).mono ?_); rintro e w7 ⟨v245, rfl, ho0, hb⟩; have n0_ := Aside0.mk (Kd.R_lower ho0 (below_size (by repeat (first | (with_reducible first | exact HB.out | apply below_alloc | apply pw_below_drewN | apply below_drew1) | exact HB.out)))); have n1_ := Aside0.mk (below_step (by repeat (first | (with_reducible first | exact HB.out | apply below_alloc | apply pw_below_drewN | apply below_drew1) | exact HB.out)) hb); clear HB; have HO246 := n0_; have HB := n1_; clear n0_ n1_; (try clear hb); (try clear hb2); (try clear hk); (try clear hi); (try clear ho0); obtain ⟨Ao8, co8, eo8⟩ := Kd.R_slice HO246.out; subst eo8)); try go_wp2_with (first | (go_at_call 10; (with_reducible refine (abugidalaw06_sanity.calls k  t242 _ A2.out).mono ?_); rintro e w5 ⟨rfl, hb⟩; have n0_ := Aside0.mk (below_step (by repeat (first | (with_reducible first | exact HB.out | apply below_alloc | apply pw_below_drewN | apply below_drew1) | exact HB.out)) hb); clear HB; have HB := n0_; clear n0_; (try clear hb); (try clear hb2); (try clear hk); (try clear hi)) | (go_at_call 11; (with_reducible refine (abugidaref06_Made.calls k _ _ l0 60 t243 _ ?side1 ?side2 A3.out).mono ?_); (case side1 => repeat (first | exact (Kd.C_below HR0.out HB.out) | (with_reducible refine Kd.C_alloc ?_ _) | (with_reducible refine Kd.C_drewN ?_ _) | (with_reducible refine Kd.C_drew ?_))); (case side2 => exact HC0.out); rintro e w6 ⟨rfl, hb⟩; have n0_ := Aside0.mk (below_step (by repeat (first | (with_reducible first | exact HB.out | apply below_alloc | apply pw_below_drewN | apply below_drew1) | exact HB.out)) hb); clear HB; have HB := n0_; clear n0_; (try clear hb); (try clear hb2); (try clear hk); (try clear hi)) | (go_at_call 13; (with_reducible refine (cluster_Split.calls t243 t244 _ A4.out).mono ?_); rintro e w7 ⟨v245, rfl, ho0, hb⟩; have n0_ := Aside0.mk (Kd.R_lower ho0 (below_size (by repeat (first | (with_reducible first | exact HB.out | apply below_alloc | apply pw_below_drewN | apply below_drew1) | exact HB.out)))); have n1_ := Aside0.mk (below_step (by repeat (first | (with_reducible first | exact HB.out | apply below_alloc | apply pw_below_drewN | apply below_drew1) | exact HB.out)) hb); clear HB; have HO246 := n0_; have HB := n1_; clear n0_ n1_; (try clear hb); (try clear hb2); (try clear hk); (try clear hi); (try clear ho0); obtain ⟨Ao8, co8, eo8⟩ := Kd.R_slice HO246.out; subst eo8)))
  go_loopg [20] k (fun kq v20 w' => ∃ (x20_1 : Int), v20 = .int .i64 x20_1 ∧ Aside0 (abugidalaw06_ClusterBelongs.l0 kq t242 t243 t244 t244 (t244.length : Int) x20_1 = some r) ∧ Aside0 (kq ≤ k) ∧ Aside0 (Kd.R k30 30 w' w.heap.size (fun _ => True) (.slice Ao8 t244.length co8) t244) ∧ Aside0 (Kd.R k30 30 w' w.heap.size (fun _ => True) (.slice Ao8 t244.length co8) t244) ∧ Aside0 (Below w.heap.size w w'))
  case atStart => exact ⟨(0), (by first | rfl | (simp; done) | (simp [*]; done)), H', ⟨Nat.le_refl _⟩, ⟨by (with_reducible repeat (first | apply Kd.R_alloc | apply Kd.R_drewN | apply Kd.R_drew)); exact HO246.out⟩, ⟨by (with_reducible repeat (first | apply Kd.R_alloc | apply Kd.R_drewN | apply Kd.R_drew)); exact HO246.out⟩, ⟨by repeat (first | (with_reducible first | exact HB.out | apply below_alloc | apply pw_below_drewN | apply below_drew1) | exact HB.out)⟩⟩
  case round =>
    clear H'
    try clear p2
    try clear c6
    obtain ⟨x20_1, rfl, HA, HK1, HO_5, HO_18, HB⟩ := hrel
    cases gk with
    | zero => exact absurd HA.out (by simp [abugidalaw06_ClusterBelongs.l0])
    | succ k1 =>
      have H := HA.out
      clear HA
      simp only [abugidalaw06_ClusterBelongs.l0] at H
      by_cases c9 : x20_1 < (t244.length : Int)
      · rw [if_pos c9] at H
        have c9b0 : decide (x20_1 < (t244.length : Int)) = true := decide_eq_true c9
        clear c9
        by_cases c10 : 0 ≤ x20_1
        · rw [if_pos c10] at H
          have c10b0 : decide (0 ≤ x20_1) = true := decide_eq_true c10
          clear c10
          by_cases c11 : x20_1 < (t244.length : Int)
          · rw [if_pos c11] at H
            have c11b0 : decide (x20_1 < (t244.length : Int)) = true := decide_eq_true c11
            clear c11
            have HC12 := Aside0.mk H
            clear H
            have p247 : 0 ≤ (x20_1 : Int) := of_decide_eq_true (by first | (with_reducible assumption) | assumption)
            have q247 : x20_1 < (t244.length : Int) := of_decide_eq_true (by first | (with_reducible assumption) | assumption)
            obtain ⟨ad247, e247, hx247_0, hx247_1⟩ := at_T30 (Kd.R_reads' HO_18.out).2.2 x20_1 p247 q247
            cases e247
            replace p247 := eq_true p247
            replace q247 := eq_true q247
            go_upto_region 7 with (first | ((with_reducible refine gate_dst (N := 7) rfl ?_); (try (refine gate_guard (by rfl) ?_; dsimp only)); refine box_event ?hg (N := 7) ?hd (cs := #[.int .i64 0, .int .i64 0]) (t := 30) ?hr ?_; (case hd => rfl); (case hg => rfl); (case hr => first | (go_simp; done) | (go_simp; rfl)); intro gb248 hg w13 hbox hb; have n0_ := Aside0.mk (Kd.R_below (Kd.R_elderB (by (with_reducible repeat (first | apply Kd.R_alloc | apply Kd.R_drewN | apply Kd.R_drew)); exact HO_5.out) gb248 (Nat.le_of_eq hg.symm)) hb); have n1_ := Aside0.mk (Kd.R_below (Kd.R_elderB (by (with_reducible repeat (first | apply Kd.R_alloc | apply Kd.R_drewN | apply Kd.R_drew)); exact HO_18.out) gb248 (Nat.le_of_eq hg.symm)) hb); have n2_ := Aside0.mk (below_step (by repeat (first | (with_reducible first | exact HB.out | apply below_alloc | apply pw_below_drewN | apply below_drew1) | exact HB.out)) hb); have n3_ := Aside0.mk (hbox); have n4_ := Aside0.mk ((by rw [hg]; exact (below_size (by repeat (first | (with_reducible first | exact HB.out | apply below_alloc | apply pw_below_drewN | apply below_drew1) | exact HB.out))) : w.heap.size ≤ gb248)); have n5_ := Aside0.mk ((by rw [hg]; exact (below_size (by repeat (first | (with_reducible first | exact HB.out | apply below_alloc | apply pw_below_drewN | apply below_drew1) | exact HB.out))) : w.heap.size ≤ gb248)); clear HO_5; clear HO_18; clear HB; have HO_5 := n0_; have HO_18 := n1_; have HB := n2_; have BK248 := n3_; have GW248 := n4_; have GE248 := n5_; clear n0_ n1_ n2_ n3_ n4_ n5_; clear hb hbox hg; have hcz14_0 : w13.cell? ⟨gb248, 0, none⟩ = some (.int .i64 0) := (blk_cell BK248.out 0).trans rfl; have hcz14_1 : w13.cell? ⟨gb248, 1, none⟩ = some (.int .i64 0) := (blk_cell BK248.out 1).trans rfl; have hfz14_0 := blk_frozen BK248.out 0; have hfz14_1 := blk_frozen BK248.out 1))
            repeat (go_quiet (first | ((with_reducible refine gate_dst (N := 7) rfl ?_); (try (refine gate_guard (by rfl) ?_; dsimp only)); refine box_event ?hg (N := 7) ?hd (cs := #[.int .i64 0, .int .i64 0]) (t := 30) ?hr ?_; (case hd => rfl); (case hg => rfl); (case hr => first | (go_simp; done) | (go_simp; rfl)); intro gb248 hg w13 hbox hb; have n0_ := Aside0.mk (Kd.R_below (Kd.R_elderB (by (with_reducible repeat (first | apply Kd.R_alloc | apply Kd.R_drewN | apply Kd.R_drew)); exact HO_5.out) gb248 (Nat.le_of_eq hg.symm)) hb); have n1_ := Aside0.mk (Kd.R_below (Kd.R_elderB (by (with_reducible repeat (first | apply Kd.R_alloc | apply Kd.R_drewN | apply Kd.R_drew)); exact HO_18.out) gb248 (Nat.le_of_eq hg.symm)) hb); have n2_ := Aside0.mk (below_step (by repeat (first | (with_reducible first | exact HB.out | apply below_alloc | apply pw_below_drewN | apply below_drew1) | exact HB.out)) hb); have n3_ := Aside0.mk (hbox); have n4_ := Aside0.mk ((by rw [hg]; exact (below_size (by repeat (first | (with_reducible first | exact HB.out | apply below_alloc | apply pw_below_drewN | apply below_drew1) | exact HB.out))) : w.heap.size ≤ gb248)); have n5_ := Aside0.mk ((by rw [hg]; exact (below_size (by repeat (first | (with_reducible first | exact HB.out | apply below_alloc | apply pw_below_drewN | apply below_drew1) | exact HB.out))) : w.heap.size ≤ gb248)); clear HO_5; clear HO_18; clear HB; have HO_5 := n0_; have HO_18 := n1_; have HB := n2_; have BK248 := n3_; have GW248 := n4_; have GE248 := n5_; clear n0_ n1_ n2_ n3_ n4_ n5_; clear hb hbox hg; have hcz14_0 : w13.cell? ⟨gb248, 0, none⟩ = some (.int .i64 0) := (blk_cell BK248.out 0).trans rfl; have hcz14_1 : w13.cell? ⟨gb248, 1, none⟩ = some (.int .i64 0) := (blk_cell BK248.out 1).trans rfl; have hfz14_0 := blk_frozen BK248.out 0; have hfz14_1 := blk_frozen BK248.out 1)); go_upto_region 7 with (first | ((with_reducible refine gate_dst (N := 7) rfl ?_); (try (refine gate_guard (by rfl) ?_; dsimp only)); refine box_event ?hg (N := 7) ?hd (cs := #[.int .i64 0, .int .i64 0]) (t := 30) ?hr ?_; (case hd => rfl); (case hg => rfl); (case hr => first | (go_simp; done) | (go_simp; rfl)); intro gb248 hg w13 hbox hb; have n0_ := Aside0.mk (Kd.R_below (Kd.R_elderB (by (with_reducible repeat (first | apply Kd.R_alloc | apply Kd.R_drewN | apply Kd.R_drew)); exact HO_5.out) gb248 (Nat.le_of_eq hg.symm)) hb); have n1_ := Aside0.mk (Kd.R_below (Kd.R_elderB (by (with_reducible repeat (first | apply Kd.R_alloc | apply Kd.R_drewN | apply Kd.R_drew)); exact HO_18.out) gb248 (Nat.le_of_eq hg.symm)) hb); have n2_ := Aside0.mk (below_step (by repeat (first | (with_reducible first | exact HB.out | apply below_alloc | apply pw_below_drewN | apply below_drew1) | exact HB.out)) hb); have n3_ := Aside0.mk (hbox); have n4_ := Aside0.mk ((by rw [hg]; exact (below_size (by repeat (first | (with_reducible first | exact HB.out | apply below_alloc | apply pw_below_drewN | apply below_drew1) | exact HB.out))) : w.heap.size ≤ gb248)); have n5_ := Aside0.mk ((by rw [hg]; exact (below_size (by repeat (first | (with_reducible first | exact HB.out | apply below_alloc | apply pw_below_drewN | apply below_drew1) | exact HB.out))) : w.heap.size ≤ gb248)); clear HO_5; clear HO_18; clear HB; have HO_5 := n0_; have HO_18 := n1_; have HB := n2_; have BK248 := n3_; have GW248 := n4_; have GE248 := n5_; clear n0_ n1_ n2_ n3_ n4_ n5_; clear hb hbox hg; have hcz14_0 : w13.cell? ⟨gb248, 0, none⟩ = some (.int .i64 0) := (blk_cell BK248.out 0).trans rfl; have hcz14_1 : w13.cell? ⟨gb248, 1, none⟩ = some (.int .i64 0) := (blk_cell BK248.out 1).trans rfl; have hfz14_0 := blk_frozen BK248.out 0; have hfz14_1 := blk_frozen BK248.out 1)))
            (try simp only [Act.put, List.setIfInBounds_toArray, List.set_cons_zero, List.set_cons_succ])
            go_cut [41] (fun v41 wc => ∃ (kq : Nat) (x41_11 : Bool), v41 = .bool x41_11 ∧ Aside0 (abugidalaw06_ClusterBelongs.j1 kq t242 t243 t244 x20_1 t244 (t244.length : Int) x20_1 x41_11 ((rd_T30 t244 x20_1).f0) ((rd_T30 t244 x20_1).f1) = some r) ∧ Aside0 (kq ≤ k1) ∧ Aside0 (Kd.R k30 30 wc w.heap.size (fun k_ => k_ ≠ gb248) (.slice (some ad247) t244.length co8) t244) ∧ Aside0 (Kd.R k30 30 wc w.heap.size (fun k_ => k_ ≠ gb248) (.slice (some ad247) t244.length co8) t244) ∧ Aside0 (wc.heap[gb248]? = some (.cells #[.int .i64 ((rd_T30 t244 x20_1).f0), .int .i64 ((rd_T30 t244 x20_1).f1)] 30 (0, 0))) ∧ Aside0 (Below w.heap.size w wc))
            case first =>
              have H := HC12.out
              clear HC12
              by_cases c15 : ((rd_T30 t244 x20_1).f0) < 0
              · rw [if_pos c15] at H
                have c15b0 : decide (((rd_T30 t244 x20_1).f0) < 0) = true := decide_eq_true c15
                clear c15
                (first | rw [c15b0] | (simp only [i64_w, i32_w]; rw [c15b0]) | skip)
                have H' := Aside0.mk H
                clear H
                have hcz16_0 : w13.cell? ⟨gb248, 0, none⟩ = some (.int .i64 0) := (blk_cell BK248.out 0).trans rfl
                have hcz16_1 : w13.cell? ⟨gb248, 1, none⟩ = some (.int .i64 0) := (blk_cell BK248.out 1).trans rfl
                have hfz16_0 := blk_frozen BK248.out 0
                have hfz16_1 := blk_frozen BK248.out 1
                go_wp2
                repeat (go_quiet (fail); try go_wp2)
                go_meet
                case rel => exact ⟨_, (true), (by first | rfl | (simp; done) | (simp [*]; done)), H', ⟨by have := HK1.out; first | omega | exact Nat.le_refl _⟩, ⟨by (with_reducible repeat (first | apply Kd.R_alloc | apply Kd.R_drewN | apply Kd.R_drew)); exact Kd.R_mono (Kd.R_far (p := ⟨gb248, 1, none⟩) (Kd.R_far (p := ⟨gb248, 0, none⟩) (Kd.R_mono HO_5.out (fun k_ hk => (⟨hk, hk.2⟩ : _ ∧ k_ ≠ gb248))) (fun _ hk => hk.2) (.int .i64 ((rd_T30 t244 x20_1).f0))) (fun _ hk => hk.2) (.int .i64 ((rd_T30 t244 x20_1).f1))) (fun _ hk => hk.1.2)⟩, ⟨by (with_reducible repeat (first | apply Kd.R_alloc | apply Kd.R_drewN | apply Kd.R_drew)); exact Kd.R_mono (Kd.R_far (p := ⟨gb248, 1, none⟩) (Kd.R_far (p := ⟨gb248, 0, none⟩) (Kd.R_mono HO_18.out (fun k_ hk => (⟨hk, hk.2⟩ : _ ∧ k_ ≠ gb248))) (fun _ hk => hk.2) (.int .i64 ((rd_T30 t244 x20_1).f0))) (fun _ hk => hk.2) (.int .i64 ((rd_T30 t244 x20_1).f1))) (fun _ hk => hk.1.2)⟩, ⟨by (with_reducible repeat (first | refine blk_drewN ?_ _ | refine blk_drew ?_ | refine blk_alloc ?_ _)); refine blk_put (cs := #[.int .i64 ((rd_T30 t244 x20_1).f0), .int .i64 0]) ?_ 1 _ rfl; (with_reducible repeat (first | refine blk_drewN ?_ _ | refine blk_drew ?_ | refine blk_alloc ?_ _)); refine blk_put (cs := #[.int .i64 0, .int .i64 0]) ?_ 0 _ rfl; (with_reducible repeat (first | refine blk_drewN ?_ _ | refine blk_drew ?_ | refine blk_alloc ?_ _)); exact BK248.out⟩, ⟨by repeat (first | (with_reducible first | exact HB.out | apply below_alloc | apply pw_below_drewN | apply below_drew1 | refine below_set ?_ GE248.out) | exact HB.out)⟩⟩
              · rw [if_neg c15] at H
                have c15b0 : decide (((rd_T30 t244 x20_1).f0) < 0) = false := decide_eq_false c15
                clear c15
                (first | rw [c15b0] | (simp only [i64_w, i32_w]; rw [c15b0]) | skip)
                by_cases c17 : ((rd_T30 t244 x20_1).f0) ≥ ((rd_T30 t244 x20_1).f1)
                · rw [if_pos c17] at H
                  have c17b0 : decide (((rd_T30 t244 x20_1).f1) ≤ ((rd_T30 t244 x20_1).f0)) = true := decide_eq_true c17
                  clear c17
                  have H' := Aside0.mk H
                  clear H
                  have hcz18_0 : w13.cell? ⟨gb248, 0, none⟩ = some (.int .i64 0) := (blk_cell BK248.out 0).trans rfl
                  have hcz18_1 : w13.cell? ⟨gb248, 1, none⟩ = some (.int .i64 0) := (blk_cell BK248.out 1).trans rfl
                  have hfz18_0 := blk_frozen BK248.out 0
                  have hfz18_1 := blk_frozen BK248.out 1
                  go_wp2
                  repeat (go_quiet (fail); try go_wp2)
                  go_meet
                  case rel => exact ⟨_, (true), (by first | rfl | (simp; done) | (simp [*]; done)), H', ⟨by have := HK1.out; first | omega | exact Nat.le_refl _⟩, ⟨by (with_reducible repeat (first | apply Kd.R_alloc | apply Kd.R_drewN | apply Kd.R_drew)); exact Kd.R_mono (Kd.R_far (p := ⟨gb248, 1, none⟩) (Kd.R_far (p := ⟨gb248, 0, none⟩) (Kd.R_mono HO_5.out (fun k_ hk => (⟨hk, hk.2⟩ : _ ∧ k_ ≠ gb248))) (fun _ hk => hk.2) (.int .i64 ((rd_T30 t244 x20_1).f0))) (fun _ hk => hk.2) (.int .i64 ((rd_T30 t244 x20_1).f1))) (fun _ hk => hk.1.2)⟩, ⟨by (with_reducible repeat (first | apply Kd.R_alloc | apply Kd.R_drewN | apply Kd.R_drew)); exact Kd.R_mono (Kd.R_far (p := ⟨gb248, 1, none⟩) (Kd.R_far (p := ⟨gb248, 0, none⟩) (Kd.R_mono HO_18.out (fun k_ hk => (⟨hk, hk.2⟩ : _ ∧ k_ ≠ gb248))) (fun _ hk => hk.2) (.int .i64 ((rd_T30 t244 x20_1).f0))) (fun _ hk => hk.2) (.int .i64 ((rd_T30 t244 x20_1).f1))) (fun _ hk => hk.1.2)⟩, ⟨by (with_reducible repeat (first | refine blk_drewN ?_ _ | refine blk_drew ?_ | refine blk_alloc ?_ _)); refine blk_put (cs := #[.int .i64 ((rd_T30 t244 x20_1).f0), .int .i64 0]) ?_ 1 _ rfl; (with_reducible repeat (first | refine blk_drewN ?_ _ | refine blk_drew ?_ | refine blk_alloc ?_ _)); refine blk_put (cs := #[.int .i64 0, .int .i64 0]) ?_ 0 _ rfl; (with_reducible repeat (first | refine blk_drewN ?_ _ | refine blk_drew ?_ | refine blk_alloc ?_ _)); exact BK248.out⟩, ⟨by repeat (first | (with_reducible first | exact HB.out | apply below_alloc | apply pw_below_drewN | apply below_drew1 | refine below_set ?_ GE248.out) | exact HB.out)⟩⟩
                · rw [if_neg c17] at H
                  have c17b0 : decide (((rd_T30 t244 x20_1).f1) ≤ ((rd_T30 t244 x20_1).f0)) = false := decide_eq_false c17
                  clear c17
                  have H' := Aside0.mk H
                  clear H
                  have hcz19_0 : w13.cell? ⟨gb248, 0, none⟩ = some (.int .i64 0) := (blk_cell BK248.out 0).trans rfl
                  have hcz19_1 : w13.cell? ⟨gb248, 1, none⟩ = some (.int .i64 0) := (blk_cell BK248.out 1).trans rfl
                  have hfz19_0 := blk_frozen BK248.out 0
                  have hfz19_1 := blk_frozen BK248.out 1
                  go_wp2
                  repeat (go_quiet (fail); try go_wp2)
                  go_meet
                  case rel => exact ⟨_, (decide (((rd_T30 t244 x20_1).f1) > (t243.size : Int))), (by first | rfl | (simp; done) | (simp [*]; done)), H', ⟨by have := HK1.out; first | omega | exact Nat.le_refl _⟩, ⟨by (with_reducible repeat (first | apply Kd.R_alloc | apply Kd.R_drewN | apply Kd.R_drew)); exact Kd.R_mono (Kd.R_far (p := ⟨gb248, 1, none⟩) (Kd.R_far (p := ⟨gb248, 0, none⟩) (Kd.R_mono HO_5.out (fun k_ hk => (⟨hk, hk.2⟩ : _ ∧ k_ ≠ gb248))) (fun _ hk => hk.2) (.int .i64 ((rd_T30 t244 x20_1).f0))) (fun _ hk => hk.2) (.int .i64 ((rd_T30 t244 x20_1).f1))) (fun _ hk => hk.1.2)⟩, ⟨by (with_reducible repeat (first | apply Kd.R_alloc | apply Kd.R_drewN | apply Kd.R_drew)); exact Kd.R_mono (Kd.R_far (p := ⟨gb248, 1, none⟩) (Kd.R_far (p := ⟨gb248, 0, none⟩) (Kd.R_mono HO_18.out (fun k_ hk => (⟨hk, hk.2⟩ : _ ∧ k_ ≠ gb248))) (fun _ hk => hk.2) (.int .i64 ((rd_T30 t244 x20_1).f0))) (fun _ hk => hk.2) (.int .i64 ((rd_T30 t244 x20_1).f1))) (fun _ hk => hk.1.2)⟩, ⟨by (with_reducible repeat (first | refine blk_drewN ?_ _ | refine blk_drew ?_ | refine blk_alloc ?_ _)); refine blk_put (cs := #[.int .i64 ((rd_T30 t244 x20_1).f0), .int .i64 0]) ?_ 1 _ rfl; (with_reducible repeat (first | refine blk_drewN ?_ _ | refine blk_drew ?_ | refine blk_alloc ?_ _)); refine blk_put (cs := #[.int .i64 0, .int .i64 0]) ?_ 0 _ rfl; (with_reducible repeat (first | refine blk_drewN ?_ _ | refine blk_drew ?_ | refine blk_alloc ?_ _)); exact BK248.out⟩, ⟨by repeat (first | (with_reducible first | exact HB.out | apply below_alloc | apply pw_below_drewN | apply below_drew1 | refine below_set ?_ GE248.out) | exact HB.out)⟩⟩
            case rest =>
              clear HC12
              try clear c1
              try clear p2
              try clear q2
              try clear hx2
              try clear c6
              try clear c9
              try clear c9b0
              try clear c10
              try clear c10b0
              try clear c11
              try clear c11b0
              try clear c15
              try clear c15b0
              try clear c17
              try clear c17b0
              try clear hcz14_0
              try clear hcz14_1
              try clear hcz16_0
              try clear hcz16_1
              try clear hcz18_0
              try clear hcz18_1
              try clear hcz19_0
              try clear hcz19_1
              try clear hfz14_0
              try clear hfz14_1
              try clear hfz16_0
              try clear hfz16_1
              try clear hfz18_0
              try clear hfz18_1
              try clear hfz19_0
              try clear hfz19_1
              try clear hx247_0
              try clear hx247_1
              try clear p2
              try clear p247
              try clear q247
              obtain ⟨kq, x41_11, rfl, HA, HJ11, HO_5, HO_18, BK248, HB⟩ := hcut
              cases kq with
              | zero => exact absurd HA.out (by simp [abugidalaw06_ClusterBelongs.j1])
              | succ kj11 =>
                have H := HA.out
                clear HA
                simp only [abugidalaw06_ClusterBelongs.j1] at H
                by_cases c20 : x41_11 = true
                · subst c20
                  have H1 : (some false) = some r := by rw [if_pos rfl] at H; exact H
                  clear H
                  have H := H1
                  clear H1
                  obtain rfl := Option.some.inj H
                  go_wp2
                  repeat (go_quiet (fail); try go_wp2)
                  go_ret
                  exact ⟨by first | rfl | (simp [errW_none, errW_some] <;> rfl) | (simp [*, errW_none, errW_some] <;> rfl), by repeat (first | (with_reducible first | exact HB.out | apply below_alloc | apply pw_below_drewN | apply below_drew1 | refine below_set ?_ GE248.out) | exact HB.out)⟩
                · replace c20 := Bool.eq_false_iff.mpr c20
                  subst c20
                  have H1 : (abugidalaw06_ClusterBelongs.l1 kj11 t242 t243 t244 x20_1 ((rd_T30 t244 x20_1).f0) t244 (t244.length : Int) x20_1 ((rd_T30 t244 x20_1).f0) ((rd_T30 t244 x20_1).f1)) = some r := by rw [if_neg (show ¬ (false = true) by decide)] at H; exact H
                  clear H
                  have H := H1
                  clear H1
                  have H' := Aside0.mk H
                  clear H
                  have hcz21_0 : wc.cell? ⟨gb248, 0, none⟩ = some (.int .i64 ((rd_T30 t244 x20_1).f0)) := (blk_cell BK248.out 0).trans rfl
                  have hcz21_1 : wc.cell? ⟨gb248, 1, none⟩ = some (.int .i64 ((rd_T30 t244 x20_1).f1)) := (blk_cell BK248.out 1).trans rfl
                  have hfz21_0 := blk_frozen BK248.out 0
                  have hfz21_1 := blk_frozen BK248.out 1
                  go_wp2
                  repeat (go_quiet (fail); try go_wp2)
                  go_loopg [8] kj11 (fun kq v8 w' => ∃ (x8_3 : Int), v8 = .int .i64 x8_3 ∧ Aside0 (abugidalaw06_ClusterBelongs.l1 kq t242 t243 t244 x20_1 x8_3 t244 (t244.length : Int) x20_1 ((rd_T30 t244 x20_1).f0) ((rd_T30 t244 x20_1).f1) = some r) ∧ Aside0 (kq ≤ kj11) ∧ Aside0 (Kd.R k30 30 w' w.heap.size (fun k_ => k_ ≠ gb248) (.slice (some ad247) t244.length co8) t244) ∧ Aside0 (Kd.R k30 30 w' w.heap.size (fun k_ => k_ ≠ gb248) (.slice (some ad247) t244.length co8) t244) ∧ Aside0 (w'.heap[gb248]? = some (.cells #[.int .i64 ((rd_T30 t244 x20_1).f0), .int .i64 ((rd_T30 t244 x20_1).f1)] 30 (0, 0))) ∧ Aside0 (Below w.heap.size w w'))
                  case atStart => exact ⟨(((rd_T30 t244 x20_1).f0)), (by first | rfl | (simp; done) | (simp [*]; done)), H', ⟨Nat.le_refl _⟩, ⟨by (with_reducible repeat (first | apply Kd.R_alloc | apply Kd.R_drewN | apply Kd.R_drew)); exact HO_5.out⟩, ⟨by (with_reducible repeat (first | apply Kd.R_alloc | apply Kd.R_drewN | apply Kd.R_drew)); exact HO_18.out⟩, ⟨by (with_reducible repeat (first | refine blk_drewN ?_ _ | refine blk_drew ?_ | refine blk_alloc ?_ _)); exact BK248.out⟩, ⟨by repeat (first | (with_reducible first | exact HB.out | apply below_alloc | apply pw_below_drewN | apply below_drew1 | refine below_set ?_ GE248.out) | exact HB.out)⟩⟩
                  case round =>
                    clear H'
                    try clear c1
                    try clear c2
                    try clear p2
                    try clear q2
                    try clear hx2
                    try clear c6
                    try clear c9
                    try clear c9b0
                    try clear c10
                    try clear c10b0
                    try clear c11
                    try clear c11b0
                    try clear c15
                    try clear c15b0
                    try clear c17
                    try clear c17b0
                    try clear c20
                    try clear hcz14_0
                    try clear hcz14_1
                    try clear hcz16_0
                    try clear hcz16_1
                    try clear hcz18_0
                    try clear hcz18_1
                    try clear hcz19_0
                    try clear hcz19_1
                    try clear hcz21_0
                    try clear hcz21_1
                    try clear hfz14_0
                    try clear hfz14_1
                    try clear hfz16_0
                    try clear hfz16_1
                    try clear hfz18_0
                    try clear hfz18_1
                    try clear hfz19_0
                    try clear hfz19_1
                    try clear hfz21_0
                    try clear hfz21_1
                    try clear hx247_0
                    try clear hx247_1
                    try clear p2
                    try clear p247
                    try clear q2
                    try clear q247
                    obtain ⟨x8_3, rfl, HA, HK3, HO_5, HO_18, BK248, HB⟩ := hrel
                    cases gk with
                    | zero => exact absurd HA.out (by simp [abugidalaw06_ClusterBelongs.l1])
                    | succ k3 =>
                      have H := HA.out
                      clear HA
                      simp only [abugidalaw06_ClusterBelongs.l1] at H
                      by_cases c22 : x8_3 < ((rd_T30 t244 x20_1).f1)
                      · rw [if_pos c22] at H
                        have c22b0 : decide (x8_3 < ((rd_T30 t244 x20_1).f1)) = true := decide_eq_true c22
                        clear c22
                        by_cases c23 : 0 ≤ x8_3
                        · rw [if_pos c23] at H
                          have c23b0 : decide (0 ≤ x8_3) = true := decide_eq_true c23
                          clear c23
                          by_cases c24 : x8_3 < (t243.size : Int)
                          · rw [if_pos c24] at H
                            have c24b0 : decide (x8_3 < (t243.size : Int)) = true := decide_eq_true c24
                            clear c24
                            replace H := Option.bind_eq_some_iff.mp H
                            obtain ⟨t249, A260, H⟩ := H
                            replace H : (if x8_3 > 0 then (if 0 ≤ (wrap64 (x8_3 - 1)) then (if (wrap64 (x8_3 - 1)) < (t243.size : Int) then ((chars_Class.f k3 (wrap64 (bt t243 (wrap64 (x8_3 - 1))))).bind fun t250 => (abugidalaw06_ClusterBelongs.j3 k3 t242 t243 t244 x20_1 x8_3 t249 (t250 == 1) t244 (t244.length : Int) x20_1 ((rd_T30 t244 x20_1).f0) ((rd_T30 t244 x20_1).f1))) else (none)) else (none)) else (abugidalaw06_ClusterBelongs.j3 k3 t242 t243 t244 x20_1 x8_3 t249 false t244 (t244.length : Int) x20_1 ((rd_T30 t244 x20_1).f0) ((rd_T30 t244 x20_1).f1))) = some r := H
                            have A26 := Aside0.mk A260
                            clear A260
                            have HC27 := Aside0.mk H
                            clear H
                            have hcz28_0 : wr.cell? ⟨gb248, 0, none⟩ = some (.int .i64 ((rd_T30 t244 x20_1).f0)) := (blk_cell BK248.out 0).trans rfl
                            have hcz28_1 : wr.cell? ⟨gb248, 1, none⟩ = some (.int .i64 ((rd_T30 t244 x20_1).f1)) := (blk_cell BK248.out 1).trans rfl
                            have hfz28_0 := blk_frozen BK248.out 0
                            have hfz28_1 := blk_frozen BK248.out 1
                            have p25 : 0 ≤ (x8_3 : Int) := of_decide_eq_true (by first | (with_reducible assumption) | assumption)
                            have q25 : x8_3 < (t243.size : Int) := of_decide_eq_true (by first | (with_reducible assumption) | assumption)
                            have hx25 := bt_at t243 x8_3
                            replace p25 := eq_true p25
                            replace q25 := eq_true q25
                            go_upto_region 13 with (first | (go_at_call 19; (with_reducible refine (chars_Class.calls k3 (wrap64 (bt t243 x8_3)) t249 _ A26.out).mono ?_); rintro e w29 ⟨rfl, hb⟩; have n0_ := Aside0.mk (Kd.R_below (by (with_reducible repeat (first | apply Kd.R_alloc | apply Kd.R_drewN | apply Kd.R_drew)); exact HO_5.out) hb); have n1_ := Aside0.mk (Kd.R_below (by (with_reducible repeat (first | apply Kd.R_alloc | apply Kd.R_drewN | apply Kd.R_drew)); exact HO_18.out) hb); have n2_ := Aside0.mk (blk_below (g := gb248) (o := .cells #[.int .i64 ((rd_T30 t244 x20_1).f0), .int .i64 ((rd_T30 t244 x20_1).f1)] 30 (0, 0)) (by (with_reducible repeat (first | refine blk_drewN ?_ _ | refine blk_drew ?_ | refine blk_alloc ?_ _)); exact BK248.out) hb); have n3_ := Aside0.mk (below_step (by repeat (first | (with_reducible first | exact HB.out | apply below_alloc | apply pw_below_drewN | apply below_drew1 | refine below_set ?_ GE248.out) | exact HB.out)) hb); clear HO_5; clear HO_18; clear BK248; clear HB; have HO_5 := n0_; have HO_18 := n1_; have BK248 := n2_; have HB := n3_; clear n0_ n1_ n2_ n3_; (try clear hb); (try clear hb2); (try clear hk); (try clear hi)))
                            repeat (go_quiet (first | (go_at_call 19; (with_reducible refine (chars_Class.calls k3 (wrap64 (bt t243 x8_3)) t249 _ A26.out).mono ?_); rintro e w29 ⟨rfl, hb⟩; have n0_ := Aside0.mk (Kd.R_below (by (with_reducible repeat (first | apply Kd.R_alloc | apply Kd.R_drewN | apply Kd.R_drew)); exact HO_5.out) hb); have n1_ := Aside0.mk (Kd.R_below (by (with_reducible repeat (first | apply Kd.R_alloc | apply Kd.R_drewN | apply Kd.R_drew)); exact HO_18.out) hb); have n2_ := Aside0.mk (blk_below (g := gb248) (o := .cells #[.int .i64 ((rd_T30 t244 x20_1).f0), .int .i64 ((rd_T30 t244 x20_1).f1)] 30 (0, 0)) (by (with_reducible repeat (first | refine blk_drewN ?_ _ | refine blk_drew ?_ | refine blk_alloc ?_ _)); exact BK248.out) hb); have n3_ := Aside0.mk (below_step (by repeat (first | (with_reducible first | exact HB.out | apply below_alloc | apply pw_below_drewN | apply below_drew1 | refine below_set ?_ GE248.out) | exact HB.out)) hb); clear HO_5; clear HO_18; clear BK248; clear HB; have HO_5 := n0_; have HO_18 := n1_; have BK248 := n2_; have HB := n3_; clear n0_ n1_ n2_ n3_; (try clear hb); (try clear hb2); (try clear hk); (try clear hi))); go_upto_region 13 with (first | (go_at_call 19; (with_reducible refine (chars_Class.calls k3 (wrap64 (bt t243 x8_3)) t249 _ A26.out).mono ?_); rintro e w29 ⟨rfl, hb⟩; have n0_ := Aside0.mk (Kd.R_below (by (with_reducible repeat (first | apply Kd.R_alloc | apply Kd.R_drewN | apply Kd.R_drew)); exact HO_5.out) hb); have n1_ := Aside0.mk (Kd.R_below (by (with_reducible repeat (first | apply Kd.R_alloc | apply Kd.R_drewN | apply Kd.R_drew)); exact HO_18.out) hb); have n2_ := Aside0.mk (blk_below (g := gb248) (o := .cells #[.int .i64 ((rd_T30 t244 x20_1).f0), .int .i64 ((rd_T30 t244 x20_1).f1)] 30 (0, 0)) (by (with_reducible repeat (first | refine blk_drewN ?_ _ | refine blk_drew ?_ | refine blk_alloc ?_ _)); exact BK248.out) hb); have n3_ := Aside0.mk (below_step (by repeat (first | (with_reducible first | exact HB.out | apply below_alloc | apply pw_below_drewN | apply below_drew1 | refine below_set ?_ GE248.out) | exact HB.out)) hb); clear HO_5; clear HO_18; clear BK248; clear HB; have HO_5 := n0_; have HO_18 := n1_; have BK248 := n2_; have HB := n3_; clear n0_ n1_ n2_ n3_; (try clear hb); (try clear hb2); (try clear hk); (try clear hi))))
                            (try simp only [Act.put, List.setIfInBounds_toArray, List.set_cons_zero, List.set_cons_succ])
                            go_cut [10] (fun v10 wc => ∃ (kq : Nat) (x10_26 : Bool), v10 = .bool x10_26 ∧ Aside0 (abugidalaw06_ClusterBelongs.j3 kq t242 t243 t244 x20_1 x8_3 t249 x10_26 t244 (t244.length : Int) x20_1 ((rd_T30 t244 x20_1).f0) ((rd_T30 t244 x20_1).f1) = some r) ∧ Aside0 (kq ≤ k3) ∧ Aside0 (Kd.R k30 30 wc w.heap.size (fun k_ => k_ ≠ gb248) (.slice (some ad247) t244.length co8) t244) ∧ Aside0 (Kd.R k30 30 wc w.heap.size (fun k_ => k_ ≠ gb248) (.slice (some ad247) t244.length co8) t244) ∧ Aside0 (wc.heap[gb248]? = some (.cells #[.int .i64 ((rd_T30 t244 x20_1).f0), .int .i64 ((rd_T30 t244 x20_1).f1)] 30 (0, 0))) ∧ Aside0 (Below w.heap.size w wc))
                            case first =>
                              have H := HC27.out
                              clear HC27
                              by_cases c30 : x8_3 > 0
                              · rw [if_pos c30] at H
                                have c30b0 : decide (0 < x8_3) = true := decide_eq_true c30
                                clear c30
                                (first | rw [c30b0] | (simp only [i64_w, i32_w]; rw [c30b0]) | skip)
                                obtain ⟨ji31, hji31⟩ : ∃ j_ : Int, (wrap64 (x8_3 - 1)) = j_ := ⟨_, rfl⟩
                                replace H : (if 0 ≤ (ji31) then (if (ji31) < (t243.size : Int) then ((chars_Class.f k3 (wrap64 (bt t243 (ji31)))).bind fun t250 => (abugidalaw06_ClusterBelongs.j3 k3 t242 t243 t244 x20_1 x8_3 t249 (t250 == 1) t244 (t244.length : Int) x20_1 ((rd_T30 t244 x20_1).f0) ((rd_T30 t244 x20_1).f1))) else (none)) else (none)) = some r := by first | (rw [hji31] at H; exact H) | (simp only [hji31] at H ⊢; exact H)
                                have hji31w : (IntKind.i64.wrap (x8_3 - 1)) = ji31 := (i64_w _).trans hji31
                                by_cases c32 : 0 ≤ (ji31)
                                · rw [if_pos c32] at H
                                  have c32b0 : decide (0 ≤ (ji31)) = true := decide_eq_true c32
                                  clear c32
                                  by_cases c33 : (ji31) < (t243.size : Int)
                                  · rw [if_pos c33] at H
                                    have c33b0 : decide ((ji31) < (t243.size : Int)) = true := decide_eq_true c33
                                    clear c33
                                    replace H := Option.bind_eq_some_iff.mp H
                                    obtain ⟨t250, A350, H⟩ := H
                                    replace H : (abugidalaw06_ClusterBelongs.j3 k3 t242 t243 t244 x20_1 x8_3 t249 (t250 == 1) t244 (t244.length : Int) x20_1 ((rd_T30 t244 x20_1).f0) ((rd_T30 t244 x20_1).f1)) = some r := H
                                    have A35 := Aside0.mk A350
                                    clear A350
                                    have H' := Aside0.mk H
                                    clear H
                                    have p34 : 0 ≤ ((ji31) : Int) := of_decide_eq_true (by first | (with_reducible assumption) | assumption)
                                    have q34 : (ji31) < (t243.size : Int) := of_decide_eq_true (by first | (with_reducible assumption) | assumption)
                                    have hx34 := bt_at t243 (ji31)
                                    replace p34 := eq_true p34
                                    replace q34 := eq_true q34
                                    go_wp2_with (first | (go_at_call 19; (with_reducible refine (chars_Class.calls k3 (wrap64 (bt t243 (ji31))) t250 _ A35.out).mono ?_); rintro e w36 ⟨rfl, hb⟩; have n0_ := Aside0.mk (Kd.R_below (by (with_reducible repeat (first | apply Kd.R_alloc | apply Kd.R_drewN | apply Kd.R_drew)); exact HO_5.out) hb); have n1_ := Aside0.mk (Kd.R_below (by (with_reducible repeat (first | apply Kd.R_alloc | apply Kd.R_drewN | apply Kd.R_drew)); exact HO_18.out) hb); have n2_ := Aside0.mk (blk_below (g := gb248) (o := .cells #[.int .i64 ((rd_T30 t244 x20_1).f0), .int .i64 ((rd_T30 t244 x20_1).f1)] 30 (0, 0)) (by (with_reducible repeat (first | refine blk_drewN ?_ _ | refine blk_drew ?_ | refine blk_alloc ?_ _)); exact BK248.out) hb); have n3_ := Aside0.mk (below_step (by repeat (first | (with_reducible first | exact HB.out | apply below_alloc | apply pw_below_drewN | apply below_drew1 | refine below_set ?_ GE248.out) | exact HB.out)) hb); clear HO_5; clear HO_18; clear BK248; clear HB; have HO_5 := n0_; have HO_18 := n1_; have BK248 := n2_; have HB := n3_; clear n0_ n1_ n2_ n3_; (try clear hb); (try clear hb2); (try clear hk); (try clear hi)))
                                    repeat (go_quiet (first | (go_at_call 19; (with_reducible refine (chars_Class.calls k3 (wrap64 (bt t243 (ji31))) t250 _ A35.out).mono ?_); rintro e w36 ⟨rfl, hb⟩; have n0_ := Aside0.mk (Kd.R_below (by (with_reducible repeat (first | apply Kd.R_alloc | apply Kd.R_drewN | apply Kd.R_drew)); exact HO_5.out) hb); have n1_ := Aside0.mk (Kd.R_below (by (with_reducible repeat (first | apply Kd.R_alloc | apply Kd.R_drewN | apply Kd.R_drew)); exact HO_18.out) hb); have n2_ := Aside0.mk (blk_below (g := gb248) (o := .cells #[.int .i64 ((rd_T30 t244 x20_1).f0), .int .i64 ((rd_T30 t244 x20_1).f1)] 30 (0, 0)) (by (with_reducible repeat (first | refine blk_drewN ?_ _ | refine blk_drew ?_ | refine blk_alloc ?_ _)); exact BK248.out) hb); have n3_ := Aside0.mk (below_step (by repeat (first | (with_reducible first | exact HB.out | apply below_alloc | apply pw_below_drewN | apply below_drew1 | refine below_set ?_ GE248.out) | exact HB.out)) hb); clear HO_5; clear HO_18; clear BK248; clear HB; have HO_5 := n0_; have HO_18 := n1_; have BK248 := n2_; have HB := n3_; clear n0_ n1_ n2_ n3_; (try clear hb); (try clear hb2); (try clear hk); (try clear hi))); try go_wp2_with (first | (go_at_call 19; (with_reducible refine (chars_Class.calls k3 (wrap64 (bt t243 (ji31))) t250 _ A35.out).mono ?_); rintro e w36 ⟨rfl, hb⟩; have n0_ := Aside0.mk (Kd.R_below (by (with_reducible repeat (first | apply Kd.R_alloc | apply Kd.R_drewN | apply Kd.R_drew)); exact HO_5.out) hb); have n1_ := Aside0.mk (Kd.R_below (by (with_reducible repeat (first | apply Kd.R_alloc | apply Kd.R_drewN | apply Kd.R_drew)); exact HO_18.out) hb); have n2_ := Aside0.mk (blk_below (g := gb248) (o := .cells #[.int .i64 ((rd_T30 t244 x20_1).f0), .int .i64 ((rd_T30 t244 x20_1).f1)] 30 (0, 0)) (by (with_reducible repeat (first | refine blk_drewN ?_ _ | refine blk_drew ?_ | refine blk_alloc ?_ _)); exact BK248.out) hb); have n3_ := Aside0.mk (below_step (by repeat (first | (with_reducible first | exact HB.out | apply below_alloc | apply pw_below_drewN | apply below_drew1 | refine below_set ?_ GE248.out) | exact HB.out)) hb); clear HO_5; clear HO_18; clear BK248; clear HB; have HO_5 := n0_; have HO_18 := n1_; have BK248 := n2_; have HB := n3_; clear n0_ n1_ n2_ n3_; (try clear hb); (try clear hb2); (try clear hk); (try clear hi))))
                                    go_meet
                                    case rel => exact ⟨_, ((t250 == 1)), (by first | rfl | (simp; done) | (simp [*]; done)), H', ⟨by have := HK1.out; have := HJ11.out; have := HK3.out; first | omega | exact Nat.le_refl _⟩, ⟨by (with_reducible repeat (first | apply Kd.R_alloc | apply Kd.R_drewN | apply Kd.R_drew)); exact HO_5.out⟩, ⟨by (with_reducible repeat (first | apply Kd.R_alloc | apply Kd.R_drewN | apply Kd.R_drew)); exact HO_18.out⟩, ⟨by (with_reducible repeat (first | refine blk_drewN ?_ _ | refine blk_drew ?_ | refine blk_alloc ?_ _)); exact BK248.out⟩, ⟨by repeat (first | (with_reducible first | exact HB.out | apply below_alloc | apply pw_below_drewN | apply below_drew1 | refine below_set ?_ GE248.out) | exact HB.out)⟩⟩
                                  · rw [if_neg c33] at H
                                    exact absurd H (by simp)
                                · rw [if_neg c32] at H
                                  exact absurd H (by simp)
                              · rw [if_neg c30] at H
                                have c30b0 : decide (0 < x8_3) = false := decide_eq_false c30
                                clear c30
                                (first | rw [c30b0] | (simp only [i64_w, i32_w]; rw [c30b0]) | skip)
                                have H' := Aside0.mk H
                                clear H
                                go_wp2
                                repeat (go_quiet (fail); try go_wp2)
                                go_meet
                                case rel => exact ⟨_, (false), (by first | rfl | (simp; done) | (simp [*]; done)), H', ⟨by have := HK1.out; have := HJ11.out; have := HK3.out; first | omega | exact Nat.le_refl _⟩, ⟨by (with_reducible repeat (first | apply Kd.R_alloc | apply Kd.R_drewN | apply Kd.R_drew)); exact HO_5.out⟩, ⟨by (with_reducible repeat (first | apply Kd.R_alloc | apply Kd.R_drewN | apply Kd.R_drew)); exact HO_18.out⟩, ⟨by (with_reducible repeat (first | refine blk_drewN ?_ _ | refine blk_drew ?_ | refine blk_alloc ?_ _)); exact BK248.out⟩, ⟨by repeat (first | (with_reducible first | exact HB.out | apply below_alloc | apply pw_below_drewN | apply below_drew1 | refine below_set ?_ GE248.out) | exact HB.out)⟩⟩
                            case rest =>
                              clear HC27
                              try clear c1
                              try clear c2
                              try clear p2
                              try clear q2
                              try clear hx2
                              try clear c3
                              try clear p3
                              try clear q3
                              try clear hx3
                              try clear c6
                              try clear p6
                              try clear c9
                              try clear c9b0
                              try clear c10
                              try clear c10b0
                              try clear c11
                              try clear c11b0
                              try clear c15
                              try clear c15b0
                              try clear c17
                              try clear c17b0
                              try clear c20
                              try clear c22
                              try clear c22b0
                              try clear c23
                              try clear c23b0
                              try clear c24
                              try clear c24b0
                              try clear p24
                              try clear q24
                              try clear hx24
                              try clear p25
                              try clear q25
                              try clear hx25
                              try clear c30
                              try clear c30b0
                              try clear c32
                              try clear c32b0
                              try clear c33
                              try clear c33b0
                              try clear p34
                              try clear q34
                              try clear hx34
                              try clear hcz14_0
                              try clear hcz14_1
                              try clear hcz16_0
                              try clear hcz16_1
                              try clear hcz18_0
                              try clear hcz18_1
                              try clear hcz19_0
                              try clear hcz19_1
                              try clear hcz21_0
                              try clear hcz21_1
                              try clear hcz28_0
                              try clear hcz28_1
                              try clear hfz14_0
                              try clear hfz14_1
                              try clear hfz16_0
                              try clear hfz16_1
                              try clear hfz18_0
                              try clear hfz18_1
                              try clear hfz19_0
                              try clear hfz19_1
                              try clear hfz21_0
                              try clear hfz21_1
                              try clear hfz28_0
                              try clear hfz28_1
                              try clear hx247_0
                              try clear hx247_1
                              try clear p2
                              try clear p247
                              try clear p25
                              try clear p34
                              try clear q2
                              try clear q247
                              try clear q25
                              try clear q34
                              obtain ⟨kq, x10_26, rfl, HA, HJ26, HO_5, HO_18, BK248, HB⟩ := hcut
                              cases kq with
                              | zero => exact absurd HA.out (by simp [abugidalaw06_ClusterBelongs.j3])
                              | succ kj26 =>
                                have H := HA.out
                                clear HA
                                simp only [abugidalaw06_ClusterBelongs.j3] at H
                                have HC37 := Aside0.mk H
                                clear H
                                go_upto_region 14 with (fail)
                                repeat (go_quiet (fail); go_upto_region 14 with (fail))
                                go_cut [11] (fun v11 wc => ∃ (kq : Nat) (x11_36 : Bool), v11 = .bool x11_36 ∧ Aside0 (abugidalaw06_ClusterBelongs.j4 kq t242 t243 t244 x20_1 x8_3 x10_26 x11_36 t244 (t244.length : Int) x20_1 ((rd_T30 t244 x20_1).f0) ((rd_T30 t244 x20_1).f1) = some r) ∧ Aside0 (kq ≤ kj26) ∧ Aside0 (Kd.R k30 30 wc w.heap.size (fun k_ => k_ ≠ gb248) (.slice (some ad247) t244.length co8) t244) ∧ Aside0 (Kd.R k30 30 wc w.heap.size (fun k_ => k_ ≠ gb248) (.slice (some ad247) t244.length co8) t244) ∧ Aside0 (wc.heap[gb248]? = some (.cells #[.int .i64 ((rd_T30 t244 x20_1).f0), .int .i64 ((rd_T30 t244 x20_1).f1)] 30 (0, 0))) ∧ Aside0 (Below w.heap.size w wc))
                                case first =>
                                  have H := HC37.out
                                  clear HC37
                                  by_cases c38 : 0 ≤ x8_3
                                  · rw [if_pos c38] at H
                                    have c38b0 : decide (0 ≤ x8_3) = true := decide_eq_true c38
                                    clear c38
                                    (first | rw [c38b0] | (simp only [i64_w, i32_w]; rw [c38b0]) | skip)
                                    by_cases c39 : x8_3 < (t243.size : Int)
                                    · rw [if_pos c39] at H
                                      have c39b0 : decide (x8_3 < (t243.size : Int)) = true := decide_eq_true c39
                                      clear c39
                                      replace H := Option.bind_eq_some_iff.mp H
                                      obtain ⟨t251, A410, H⟩ := H
                                      replace H : (if t251 = true then (abugidalaw06_ClusterBelongs.j4 kj26 t242 t243 t244 x20_1 x8_3 x10_26 true t244 (t244.length : Int) x20_1 ((rd_T30 t244 x20_1).f0) ((rd_T30 t244 x20_1).f1)) else (if t249 = 9 then (if x8_3 > 0 then (if 0 ≤ (wrap64 (x8_3 - 1)) then (if (wrap64 (x8_3 - 1)) < (t243.size : Int) then ((chars_Class.f kj26 (wrap64 (bt t243 (wrap64 (x8_3 - 1))))).bind fun t252 => (abugidalaw06_ClusterBelongs.j4 kj26 t242 t243 t244 x20_1 x8_3 x10_26 (t252 == 10) t244 (t244.length : Int) x20_1 ((rd_T30 t244 x20_1).f0) ((rd_T30 t244 x20_1).f1))) else (none)) else (none)) else (abugidalaw06_ClusterBelongs.j4 kj26 t242 t243 t244 x20_1 x8_3 x10_26 false t244 (t244.length : Int) x20_1 ((rd_T30 t244 x20_1).f0) ((rd_T30 t244 x20_1).f1))) else (abugidalaw06_ClusterBelongs.j4 kj26 t242 t243 t244 x20_1 x8_3 x10_26 false t244 (t244.length : Int) x20_1 ((rd_T30 t244 x20_1).f0) ((rd_T30 t244 x20_1).f1)))) = some r := H
                                      have A41 := Aside0.mk A410
                                      clear A410
                                      by_cases c42 : t251 = true
                                      · subst c42
                                        have H1 : (abugidalaw06_ClusterBelongs.j4 kj26 t242 t243 t244 x20_1 x8_3 x10_26 true t244 (t244.length : Int) x20_1 ((rd_T30 t244 x20_1).f0) ((rd_T30 t244 x20_1).f1)) = some r := by rw [if_pos rfl] at H; exact H
                                        clear H
                                        have H := H1
                                        clear H1
                                        have H' := Aside0.mk H
                                        clear H
                                        have p40 : 0 ≤ (x8_3 : Int) := of_decide_eq_true (by first | (with_reducible assumption) | assumption)
                                        have q40 : x8_3 < (t243.size : Int) := of_decide_eq_true (by first | (with_reducible assumption) | assumption)
                                        have hx40 := bt_at t243 x8_3
                                        replace p40 := eq_true p40
                                        replace q40 := eq_true q40
                                        go_wp2_with (first | (go_at_call 20; (with_reducible refine (chars_Extends.calls kj26 (wrap64 (bt t243 x8_3)) true _ A41.out).mono ?_); rintro e w43 ⟨rfl, hb⟩; have n0_ := Aside0.mk (Kd.R_below (by (with_reducible repeat (first | apply Kd.R_alloc | apply Kd.R_drewN | apply Kd.R_drew)); exact HO_5.out) hb); have n1_ := Aside0.mk (Kd.R_below (by (with_reducible repeat (first | apply Kd.R_alloc | apply Kd.R_drewN | apply Kd.R_drew)); exact HO_18.out) hb); have n2_ := Aside0.mk (blk_below (g := gb248) (o := .cells #[.int .i64 ((rd_T30 t244 x20_1).f0), .int .i64 ((rd_T30 t244 x20_1).f1)] 30 (0, 0)) (by (with_reducible repeat (first | refine blk_drewN ?_ _ | refine blk_drew ?_ | refine blk_alloc ?_ _)); exact BK248.out) hb); have n3_ := Aside0.mk (below_step (by repeat (first | (with_reducible first | exact HB.out | apply below_alloc | apply pw_below_drewN | apply below_drew1 | refine below_set ?_ GE248.out) | exact HB.out)) hb); clear HO_5; clear HO_18; clear BK248; clear HB; have HO_5 := n0_; have HO_18 := n1_; have BK248 := n2_; have HB := n3_; clear n0_ n1_ n2_ n3_; (try clear hb); (try clear hb2); (try clear hk); (try clear hi)))
                                        repeat (go_quiet (first | (go_at_call 20; (with_reducible refine (chars_Extends.calls kj26 (wrap64 (bt t243 x8_3)) true _ A41.out).mono ?_); rintro e w43 ⟨rfl, hb⟩; have n0_ := Aside0.mk (Kd.R_below (by (with_reducible repeat (first | apply Kd.R_alloc | apply Kd.R_drewN | apply Kd.R_drew)); exact HO_5.out) hb); have n1_ := Aside0.mk (Kd.R_below (by (with_reducible repeat (first | apply Kd.R_alloc | apply Kd.R_drewN | apply Kd.R_drew)); exact HO_18.out) hb); have n2_ := Aside0.mk (blk_below (g := gb248) (o := .cells #[.int .i64 ((rd_T30 t244 x20_1).f0), .int .i64 ((rd_T30 t244 x20_1).f1)] 30 (0, 0)) (by (with_reducible repeat (first | refine blk_drewN ?_ _ | refine blk_drew ?_ | refine blk_alloc ?_ _)); exact BK248.out) hb); have n3_ := Aside0.mk (below_step (by repeat (first | (with_reducible first | exact HB.out | apply below_alloc | apply pw_below_drewN | apply below_drew1 | refine below_set ?_ GE248.out) | exact HB.out)) hb); clear HO_5; clear HO_18; clear BK248; clear HB; have HO_5 := n0_; have HO_18 := n1_; have BK248 := n2_; have HB := n3_; clear n0_ n1_ n2_ n3_; (try clear hb); (try clear hb2); (try clear hk); (try clear hi))); try go_wp2_with (first | (go_at_call 20; (with_reducible refine (chars_Extends.calls kj26 (wrap64 (bt t243 x8_3)) true _ A41.out).mono ?_); rintro e w43 ⟨rfl, hb⟩; have n0_ := Aside0.mk (Kd.R_below (by (with_reducible repeat (first | apply Kd.R_alloc | apply Kd.R_drewN | apply Kd.R_drew)); exact HO_5.out) hb); have n1_ := Aside0.mk (Kd.R_below (by (with_reducible repeat (first | apply Kd.R_alloc | apply Kd.R_drewN | apply Kd.R_drew)); exact HO_18.out) hb); have n2_ := Aside0.mk (blk_below (g := gb248) (o := .cells #[.int .i64 ((rd_T30 t244 x20_1).f0), .int .i64 ((rd_T30 t244 x20_1).f1)] 30 (0, 0)) (by (with_reducible repeat (first | refine blk_drewN ?_ _ | refine blk_drew ?_ | refine blk_alloc ?_ _)); exact BK248.out) hb); have n3_ := Aside0.mk (below_step (by repeat (first | (with_reducible first | exact HB.out | apply below_alloc | apply pw_below_drewN | apply below_drew1 | refine below_set ?_ GE248.out) | exact HB.out)) hb); clear HO_5; clear HO_18; clear BK248; clear HB; have HO_5 := n0_; have HO_18 := n1_; have BK248 := n2_; have HB := n3_; clear n0_ n1_ n2_ n3_; (try clear hb); (try clear hb2); (try clear hk); (try clear hi))))
                                        go_meet
                                        case rel => exact ⟨_, (true), (by first | rfl | (simp; done) | (simp [*]; done)), H', ⟨by have := HK1.out; have := HJ11.out; have := HK3.out; have := HJ26.out; first | omega | exact Nat.le_refl _⟩, ⟨by (with_reducible repeat (first | apply Kd.R_alloc | apply Kd.R_drewN | apply Kd.R_drew)); exact HO_5.out⟩, ⟨by (with_reducible repeat (first | apply Kd.R_alloc | apply Kd.R_drewN | apply Kd.R_drew)); exact HO_18.out⟩, ⟨by (with_reducible repeat (first | refine blk_drewN ?_ _ | refine blk_drew ?_ | refine blk_alloc ?_ _)); exact BK248.out⟩, ⟨by repeat (first | (with_reducible first | exact HB.out | apply below_alloc | apply pw_below_drewN | apply below_drew1 | refine below_set ?_ GE248.out) | exact HB.out)⟩⟩
                                      · replace c42 := Bool.eq_false_iff.mpr c42
                                        subst c42
                                        have H1 : (if t249 = 9 then (if x8_3 > 0 then (if 0 ≤ (wrap64 (x8_3 - 1)) then (if (wrap64 (x8_3 - 1)) < (t243.size : Int) then ((chars_Class.f kj26 (wrap64 (bt t243 (wrap64 (x8_3 - 1))))).bind fun t252 => (abugidalaw06_ClusterBelongs.j4 kj26 t242 t243 t244 x20_1 x8_3 x10_26 (t252 == 10) t244 (t244.length : Int) x20_1 ((rd_T30 t244 x20_1).f0) ((rd_T30 t244 x20_1).f1))) else (none)) else (none)) else (abugidalaw06_ClusterBelongs.j4 kj26 t242 t243 t244 x20_1 x8_3 x10_26 false t244 (t244.length : Int) x20_1 ((rd_T30 t244 x20_1).f0) ((rd_T30 t244 x20_1).f1))) else (abugidalaw06_ClusterBelongs.j4 kj26 t242 t243 t244 x20_1 x8_3 x10_26 false t244 (t244.length : Int) x20_1 ((rd_T30 t244 x20_1).f0) ((rd_T30 t244 x20_1).f1))) = some r := by rw [if_neg (show ¬ (false = true) by decide)] at H; exact H
                                        clear H
                                        have H := H1
                                        clear H1
                                        by_cases c44 : t249 = 9
                                        · rw [if_pos c44] at H
                                          have c44b0 : (t249 == 9) = true := beq_iff_eq.mpr c44
                                          have c44b1 : (t249 != 9) = false := bne_eq_false_iff_eq.mpr c44
                                          clear c44
                                          by_cases c45 : x8_3 > 0
                                          · rw [if_pos c45] at H
                                            have c45b0 : decide (0 < x8_3) = true := decide_eq_true c45
                                            clear c45
                                            obtain ⟨ji46, hji46⟩ : ∃ j_ : Int, (wrap64 (x8_3 - 1)) = j_ := ⟨_, rfl⟩
                                            replace H : (if 0 ≤ (ji46) then (if (ji46) < (t243.size : Int) then ((chars_Class.f kj26 (wrap64 (bt t243 (ji46)))).bind fun t252 => (abugidalaw06_ClusterBelongs.j4 kj26 t242 t243 t244 x20_1 x8_3 x10_26 (t252 == 10) t244 (t244.length : Int) x20_1 ((rd_T30 t244 x20_1).f0) ((rd_T30 t244 x20_1).f1))) else (none)) else (none)) = some r := by first | (rw [hji46] at H; exact H) | (simp only [hji46] at H ⊢; exact H)
                                            (try rw [hji46] at A41)
                                            have hji46w : (IntKind.i64.wrap (x8_3 - 1)) = ji46 := (i64_w _).trans hji46
                                            by_cases c47 : 0 ≤ (ji46)
                                            · rw [if_pos c47] at H
                                              have c47b0 : decide (0 ≤ (ji46)) = true := decide_eq_true c47
                                              clear c47
                                              by_cases c48 : (ji46) < (t243.size : Int)
                                              · rw [if_pos c48] at H
                                                have c48b0 : decide ((ji46) < (t243.size : Int)) = true := decide_eq_true c48
                                                clear c48
                                                replace H := Option.bind_eq_some_iff.mp H
                                                obtain ⟨t252, A500, H⟩ := H
                                                replace H : (abugidalaw06_ClusterBelongs.j4 kj26 t242 t243 t244 x20_1 x8_3 x10_26 (t252 == 10) t244 (t244.length : Int) x20_1 ((rd_T30 t244 x20_1).f0) ((rd_T30 t244 x20_1).f1)) = some r := H
                                                have A50 := Aside0.mk A500
                                                clear A500
                                                have H' := Aside0.mk H
                                                clear H
                                                have p40 : 0 ≤ (x8_3 : Int) := of_decide_eq_true (by first | (with_reducible assumption) | assumption)
                                                have q40 : x8_3 < (t243.size : Int) := of_decide_eq_true (by first | (with_reducible assumption) | assumption)
                                                have hx40 := bt_at t243 x8_3
                                                replace p40 := eq_true p40
                                                replace q40 := eq_true q40
                                                go_wp2_with (first | (go_at_call 20; (with_reducible refine (chars_Extends.calls kj26 (wrap64 (bt t243 x8_3)) false _ A41.out).mono ?_); rintro e w51 ⟨rfl, hb⟩; have n0_ := Aside0.mk (Kd.R_below (by (with_reducible repeat (first | apply Kd.R_alloc | apply Kd.R_drewN | apply Kd.R_drew)); exact HO_5.out) hb); have n1_ := Aside0.mk (Kd.R_below (by (with_reducible repeat (first | apply Kd.R_alloc | apply Kd.R_drewN | apply Kd.R_drew)); exact HO_18.out) hb); have n2_ := Aside0.mk (blk_below (g := gb248) (o := .cells #[.int .i64 ((rd_T30 t244 x20_1).f0), .int .i64 ((rd_T30 t244 x20_1).f1)] 30 (0, 0)) (by (with_reducible repeat (first | refine blk_drewN ?_ _ | refine blk_drew ?_ | refine blk_alloc ?_ _)); exact BK248.out) hb); have n3_ := Aside0.mk (below_step (by repeat (first | (with_reducible first | exact HB.out | apply below_alloc | apply pw_below_drewN | apply below_drew1 | refine below_set ?_ GE248.out) | exact HB.out)) hb); clear HO_5; clear HO_18; clear BK248; clear HB; have HO_5 := n0_; have HO_18 := n1_; have BK248 := n2_; have HB := n3_; clear n0_ n1_ n2_ n3_; (try clear hb); (try clear hb2); (try clear hk); (try clear hi); have p49 : 0 ≤ ((ji46) : Int) := of_decide_eq_true (by first | (with_reducible assumption) | assumption); have q49 : (ji46) < (t243.size : Int) := of_decide_eq_true (by first | (with_reducible assumption) | assumption); have hx49 := bt_at t243 (ji46); replace p49 := eq_true p49; replace q49 := eq_true q49) | (go_at_call 19; (with_reducible refine (chars_Class.calls kj26 (wrap64 (bt t243 (ji46))) t252 _ A50.out).mono ?_); rintro e w52 ⟨rfl, hb⟩; have n0_ := Aside0.mk (Kd.R_below (by (with_reducible repeat (first | apply Kd.R_alloc | apply Kd.R_drewN | apply Kd.R_drew)); exact HO_5.out) hb); have n1_ := Aside0.mk (Kd.R_below (by (with_reducible repeat (first | apply Kd.R_alloc | apply Kd.R_drewN | apply Kd.R_drew)); exact HO_18.out) hb); have n2_ := Aside0.mk (blk_below (g := gb248) (o := .cells #[.int .i64 ((rd_T30 t244 x20_1).f0), .int .i64 ((rd_T30 t244 x20_1).f1)] 30 (0, 0)) (by (with_reducible repeat (first | refine blk_drewN ?_ _ | refine blk_drew ?_ | refine blk_alloc ?_ _)); exact BK248.out) hb); have n3_ := Aside0.mk (below_step (by repeat (first | (with_reducible first | exact HB.out | apply below_alloc | apply pw_below_drewN | apply below_drew1 | refine below_set ?_ GE248.out) | exact HB.out)) hb); clear HO_5; clear HO_18; clear BK248; clear HB; have HO_5 := n0_; have HO_18 := n1_; have BK248 := n2_; have HB := n3_; clear n0_ n1_ n2_ n3_; (try clear hb); (try clear hb2); (try clear hk); (try clear hi)))
                                                repeat (go_quiet (first | (go_at_call 20; (with_reducible refine (chars_Extends.calls kj26 (wrap64 (bt t243 x8_3)) false _ A41.out).mono ?_); rintro e w51 ⟨rfl, hb⟩; have n0_ := Aside0.mk (Kd.R_below (by (with_reducible repeat (first | apply Kd.R_alloc | apply Kd.R_drewN | apply Kd.R_drew)); exact HO_5.out) hb); have n1_ := Aside0.mk (Kd.R_below (by (with_reducible repeat (first | apply Kd.R_alloc | apply Kd.R_drewN | apply Kd.R_drew)); exact HO_18.out) hb); have n2_ := Aside0.mk (blk_below (g := gb248) (o := .cells #[.int .i64 ((rd_T30 t244 x20_1).f0), .int .i64 ((rd_T30 t244 x20_1).f1)] 30 (0, 0)) (by (with_reducible repeat (first | refine blk_drewN ?_ _ | refine blk_drew ?_ | refine blk_alloc ?_ _)); exact BK248.out) hb); have n3_ := Aside0.mk (below_step (by repeat (first | (with_reducible first | exact HB.out | apply below_alloc | apply pw_below_drewN | apply below_drew1 | refine below_set ?_ GE248.out) | exact HB.out)) hb); clear HO_5; clear HO_18; clear BK248; clear HB; have HO_5 := n0_; have HO_18 := n1_; have BK248 := n2_; have HB := n3_; clear n0_ n1_ n2_ n3_; (try clear hb); (try clear hb2); (try clear hk); (try clear hi); have p49 : 0 ≤ ((ji46) : Int) := of_decide_eq_true (by first | (with_reducible assumption) | assumption); have q49 : (ji46) < (t243.size : Int) := of_decide_eq_true (by first | (with_reducible assumption) | assumption); have hx49 := bt_at t243 (ji46); replace p49 := eq_true p49; replace q49 := eq_true q49) | (go_at_call 19; (with_reducible refine (chars_Class.calls kj26 (wrap64 (bt t243 (ji46))) t252 _ A50.out).mono ?_); rintro e w52 ⟨rfl, hb⟩; have n0_ := Aside0.mk (Kd.R_below (by (with_reducible repeat (first | apply Kd.R_alloc | apply Kd.R_drewN | apply Kd.R_drew)); exact HO_5.out) hb); have n1_ := Aside0.mk (Kd.R_below (by (with_reducible repeat (first | apply Kd.R_alloc | apply Kd.R_drewN | apply Kd.R_drew)); exact HO_18.out) hb); have n2_ := Aside0.mk (blk_below (g := gb248) (o := .cells #[.int .i64 ((rd_T30 t244 x20_1).f0), .int .i64 ((rd_T30 t244 x20_1).f1)] 30 (0, 0)) (by (with_reducible repeat (first | refine blk_drewN ?_ _ | refine blk_drew ?_ | refine blk_alloc ?_ _)); exact BK248.out) hb); have n3_ := Aside0.mk (below_step (by repeat (first | (with_reducible first | exact HB.out | apply below_alloc | apply pw_below_drewN | apply below_drew1 | refine below_set ?_ GE248.out) | exact HB.out)) hb); clear HO_5; clear HO_18; clear BK248; clear HB; have HO_5 := n0_; have HO_18 := n1_; have BK248 := n2_; have HB := n3_; clear n0_ n1_ n2_ n3_; (try clear hb); (try clear hb2); (try clear hk); (try clear hi))); try go_wp2_with (first | (go_at_call 20; (with_reducible refine (chars_Extends.calls kj26 (wrap64 (bt t243 x8_3)) false _ A41.out).mono ?_); rintro e w51 ⟨rfl, hb⟩; have n0_ := Aside0.mk (Kd.R_below (by (with_reducible repeat (first | apply Kd.R_alloc | apply Kd.R_drewN | apply Kd.R_drew)); exact HO_5.out) hb); have n1_ := Aside0.mk (Kd.R_below (by (with_reducible repeat (first | apply Kd.R_alloc | apply Kd.R_drewN | apply Kd.R_drew)); exact HO_18.out) hb); have n2_ := Aside0.mk (blk_below (g := gb248) (o := .cells #[.int .i64 ((rd_T30 t244 x20_1).f0), .int .i64 ((rd_T30 t244 x20_1).f1)] 30 (0, 0)) (by (with_reducible repeat (first | refine blk_drewN ?_ _ | refine blk_drew ?_ | refine blk_alloc ?_ _)); exact BK248.out) hb); have n3_ := Aside0.mk (below_step (by repeat (first | (with_reducible first | exact HB.out | apply below_alloc | apply pw_below_drewN | apply below_drew1 | refine below_set ?_ GE248.out) | exact HB.out)) hb); clear HO_5; clear HO_18; clear BK248; clear HB; have HO_5 := n0_; have HO_18 := n1_; have BK248 := n2_; have HB := n3_; clear n0_ n1_ n2_ n3_; (try clear hb); (try clear hb2); (try clear hk); (try clear hi); have p49 : 0 ≤ ((ji46) : Int) := of_decide_eq_true (by first | (with_reducible assumption) | assumption); have q49 : (ji46) < (t243.size : Int) := of_decide_eq_true (by first | (with_reducible assumption) | assumption); have hx49 := bt_at t243 (ji46); replace p49 := eq_true p49; replace q49 := eq_true q49) | (go_at_call 19; (with_reducible refine (chars_Class.calls kj26 (wrap64 (bt t243 (ji46))) t252 _ A50.out).mono ?_); rintro e w52 ⟨rfl, hb⟩; have n0_ := Aside0.mk (Kd.R_below (by (with_reducible repeat (first | apply Kd.R_alloc | apply Kd.R_drewN | apply Kd.R_drew)); exact HO_5.out) hb); have n1_ := Aside0.mk (Kd.R_below (by (with_reducible repeat (first | apply Kd.R_alloc | apply Kd.R_drewN | apply Kd.R_drew)); exact HO_18.out) hb); have n2_ := Aside0.mk (blk_below (g := gb248) (o := .cells #[.int .i64 ((rd_T30 t244 x20_1).f0), .int .i64 ((rd_T30 t244 x20_1).f1)] 30 (0, 0)) (by (with_reducible repeat (first | refine blk_drewN ?_ _ | refine blk_drew ?_ | refine blk_alloc ?_ _)); exact BK248.out) hb); have n3_ := Aside0.mk (below_step (by repeat (first | (with_reducible first | exact HB.out | apply below_alloc | apply pw_below_drewN | apply below_drew1 | refine below_set ?_ GE248.out) | exact HB.out)) hb); clear HO_5; clear HO_18; clear BK248; clear HB; have HO_5 := n0_; have HO_18 := n1_; have BK248 := n2_; have HB := n3_; clear n0_ n1_ n2_ n3_; (try clear hb); (try clear hb2); (try clear hk); (try clear hi))))
                                                go_meet
                                                case rel => exact ⟨_, ((t252 == 10)), (by first | rfl | (simp; done) | (simp [*]; done)), H', ⟨by have := HK1.out; have := HJ11.out; have := HK3.out; have := HJ26.out; first | omega | exact Nat.le_refl _⟩, ⟨by (with_reducible repeat (first | apply Kd.R_alloc | apply Kd.R_drewN | apply Kd.R_drew)); exact HO_5.out⟩, ⟨by (with_reducible repeat (first | apply Kd.R_alloc | apply Kd.R_drewN | apply Kd.R_drew)); exact HO_18.out⟩, ⟨by (with_reducible repeat (first | refine blk_drewN ?_ _ | refine blk_drew ?_ | refine blk_alloc ?_ _)); exact BK248.out⟩, ⟨by repeat (first | (with_reducible first | exact HB.out | apply below_alloc | apply pw_below_drewN | apply below_drew1 | refine below_set ?_ GE248.out) | exact HB.out)⟩⟩
                                              · rw [if_neg c48] at H
                                                exact absurd H (by simp)
                                            · rw [if_neg c47] at H
                                              exact absurd H (by simp)
                                          · rw [if_neg c45] at H
                                            have c45b0 : decide (0 < x8_3) = false := decide_eq_false c45
                                            clear c45
                                            have H' := Aside0.mk H
                                            clear H
                                            have p40 : 0 ≤ (x8_3 : Int) := of_decide_eq_true (by first | (with_reducible assumption) | assumption)
                                            have q40 : x8_3 < (t243.size : Int) := of_decide_eq_true (by first | (with_reducible assumption) | assumption)
                                            have hx40 := bt_at t243 x8_3
                                            replace p40 := eq_true p40
                                            replace q40 := eq_true q40
                                            go_wp2_with (first | (go_at_call 20; (with_reducible refine (chars_Extends.calls kj26 (wrap64 (bt t243 x8_3)) false _ A41.out).mono ?_); rintro e w53 ⟨rfl, hb⟩; have n0_ := Aside0.mk (Kd.R_below (by (with_reducible repeat (first | apply Kd.R_alloc | apply Kd.R_drewN | apply Kd.R_drew)); exact HO_5.out) hb); have n1_ := Aside0.mk (Kd.R_below (by (with_reducible repeat (first | apply Kd.R_alloc | apply Kd.R_drewN | apply Kd.R_drew)); exact HO_18.out) hb); have n2_ := Aside0.mk (blk_below (g := gb248) (o := .cells #[.int .i64 ((rd_T30 t244 x20_1).f0), .int .i64 ((rd_T30 t244 x20_1).f1)] 30 (0, 0)) (by (with_reducible repeat (first | refine blk_drewN ?_ _ | refine blk_drew ?_ | refine blk_alloc ?_ _)); exact BK248.out) hb); have n3_ := Aside0.mk (below_step (by repeat (first | (with_reducible first | exact HB.out | apply below_alloc | apply pw_below_drewN | apply below_drew1 | refine below_set ?_ GE248.out) | exact HB.out)) hb); clear HO_5; clear HO_18; clear BK248; clear HB; have HO_5 := n0_; have HO_18 := n1_; have BK248 := n2_; have HB := n3_; clear n0_ n1_ n2_ n3_; (try clear hb); (try clear hb2); (try clear hk); (try clear hi)))
                                            repeat (go_quiet (first | (go_at_call 20; (with_reducible refine (chars_Extends.calls kj26 (wrap64 (bt t243 x8_3)) false _ A41.out).mono ?_); rintro e w53 ⟨rfl, hb⟩; have n0_ := Aside0.mk (Kd.R_below (by (with_reducible repeat (first | apply Kd.R_alloc | apply Kd.R_drewN | apply Kd.R_drew)); exact HO_5.out) hb); have n1_ := Aside0.mk (Kd.R_below (by (with_reducible repeat (first | apply Kd.R_alloc | apply Kd.R_drewN | apply Kd.R_drew)); exact HO_18.out) hb); have n2_ := Aside0.mk (blk_below (g := gb248) (o := .cells #[.int .i64 ((rd_T30 t244 x20_1).f0), .int .i64 ((rd_T30 t244 x20_1).f1)] 30 (0, 0)) (by (with_reducible repeat (first | refine blk_drewN ?_ _ | refine blk_drew ?_ | refine blk_alloc ?_ _)); exact BK248.out) hb); have n3_ := Aside0.mk (below_step (by repeat (first | (with_reducible first | exact HB.out | apply below_alloc | apply pw_below_drewN | apply below_drew1 | refine below_set ?_ GE248.out) | exact HB.out)) hb); clear HO_5; clear HO_18; clear BK248; clear HB; have HO_5 := n0_; have HO_18 := n1_; have BK248 := n2_; have HB := n3_; clear n0_ n1_ n2_ n3_; (try clear hb); (try clear hb2); (try clear hk); (try clear hi))); try go_wp2_with (first | (go_at_call 20; (with_reducible refine (chars_Extends.calls kj26 (wrap64 (bt t243 x8_3)) false _ A41.out).mono ?_); rintro e w53 ⟨rfl, hb⟩; have n0_ := Aside0.mk (Kd.R_below (by (with_reducible repeat (first | apply Kd.R_alloc | apply Kd.R_drewN | apply Kd.R_drew)); exact HO_5.out) hb); have n1_ := Aside0.mk (Kd.R_below (by (with_reducible repeat (first | apply Kd.R_alloc | apply Kd.R_drewN | apply Kd.R_drew)); exact HO_18.out) hb); have n2_ := Aside0.mk (blk_below (g := gb248) (o := .cells #[.int .i64 ((rd_T30 t244 x20_1).f0), .int .i64 ((rd_T30 t244 x20_1).f1)] 30 (0, 0)) (by (with_reducible repeat (first | refine blk_drewN ?_ _ | refine blk_drew ?_ | refine blk_alloc ?_ _)); exact BK248.out) hb); have n3_ := Aside0.mk (below_step (by repeat (first | (with_reducible first | exact HB.out | apply below_alloc | apply pw_below_drewN | apply below_drew1 | refine below_set ?_ GE248.out) | exact HB.out)) hb); clear HO_5; clear HO_18; clear BK248; clear HB; have HO_5 := n0_; have HO_18 := n1_; have BK248 := n2_; have HB := n3_; clear n0_ n1_ n2_ n3_; (try clear hb); (try clear hb2); (try clear hk); (try clear hi))))
                                            go_meet
                                            case rel => exact ⟨_, (false), (by first | rfl | (simp; done) | (simp [*]; done)), H', ⟨by have := HK1.out; have := HJ11.out; have := HK3.out; have := HJ26.out; first | omega | exact Nat.le_refl _⟩, ⟨by (with_reducible repeat (first | apply Kd.R_alloc | apply Kd.R_drewN | apply Kd.R_drew)); exact HO_5.out⟩, ⟨by (with_reducible repeat (first | apply Kd.R_alloc | apply Kd.R_drewN | apply Kd.R_drew)); exact HO_18.out⟩, ⟨by (with_reducible repeat (first | refine blk_drewN ?_ _ | refine blk_drew ?_ | refine blk_alloc ?_ _)); exact BK248.out⟩, ⟨by repeat (first | (with_reducible first | exact HB.out | apply below_alloc | apply pw_below_drewN | apply below_drew1 | refine below_set ?_ GE248.out) | exact HB.out)⟩⟩
                                        · rw [if_neg c44] at H
                                          have c44b0 : (t249 == 9) = false := beq_eq_false_iff_ne.mpr c44
                                          have c44b1 : (t249 != 9) = true := bne_iff_ne.mpr c44
                                          have H' := Aside0.mk H
                                          clear H
                                          have p40 : 0 ≤ (x8_3 : Int) := of_decide_eq_true (by first | (with_reducible assumption) | assumption)
                                          have q40 : x8_3 < (t243.size : Int) := of_decide_eq_true (by first | (with_reducible assumption) | assumption)
                                          have hx40 := bt_at t243 x8_3
                                          replace p40 := eq_true p40
                                          replace q40 := eq_true q40
                                          go_wp2_with (first | (go_at_call 20; (with_reducible refine (chars_Extends.calls kj26 (wrap64 (bt t243 x8_3)) false _ A41.out).mono ?_); rintro e w54 ⟨rfl, hb⟩; have n0_ := Aside0.mk (Kd.R_below (by (with_reducible repeat (first | apply Kd.R_alloc | apply Kd.R_drewN | apply Kd.R_drew)); exact HO_5.out) hb); have n1_ := Aside0.mk (Kd.R_below (by (with_reducible repeat (first | apply Kd.R_alloc | apply Kd.R_drewN | apply Kd.R_drew)); exact HO_18.out) hb); have n2_ := Aside0.mk (blk_below (g := gb248) (o := .cells #[.int .i64 ((rd_T30 t244 x20_1).f0), .int .i64 ((rd_T30 t244 x20_1).f1)] 30 (0, 0)) (by (with_reducible repeat (first | refine blk_drewN ?_ _ | refine blk_drew ?_ | refine blk_alloc ?_ _)); exact BK248.out) hb); have n3_ := Aside0.mk (below_step (by repeat (first | (with_reducible first | exact HB.out | apply below_alloc | apply pw_below_drewN | apply below_drew1 | refine below_set ?_ GE248.out) | exact HB.out)) hb); clear HO_5; clear HO_18; clear BK248; clear HB; have HO_5 := n0_; have HO_18 := n1_; have BK248 := n2_; have HB := n3_; clear n0_ n1_ n2_ n3_; (try clear hb); (try clear hb2); (try clear hk); (try clear hi)))
                                          repeat (go_quiet (first | (go_at_call 20; (with_reducible refine (chars_Extends.calls kj26 (wrap64 (bt t243 x8_3)) false _ A41.out).mono ?_); rintro e w54 ⟨rfl, hb⟩; have n0_ := Aside0.mk (Kd.R_below (by (with_reducible repeat (first | apply Kd.R_alloc | apply Kd.R_drewN | apply Kd.R_drew)); exact HO_5.out) hb); have n1_ := Aside0.mk (Kd.R_below (by (with_reducible repeat (first | apply Kd.R_alloc | apply Kd.R_drewN | apply Kd.R_drew)); exact HO_18.out) hb); have n2_ := Aside0.mk (blk_below (g := gb248) (o := .cells #[.int .i64 ((rd_T30 t244 x20_1).f0), .int .i64 ((rd_T30 t244 x20_1).f1)] 30 (0, 0)) (by (with_reducible repeat (first | refine blk_drewN ?_ _ | refine blk_drew ?_ | refine blk_alloc ?_ _)); exact BK248.out) hb); have n3_ := Aside0.mk (below_step (by repeat (first | (with_reducible first | exact HB.out | apply below_alloc | apply pw_below_drewN | apply below_drew1 | refine below_set ?_ GE248.out) | exact HB.out)) hb); clear HO_5; clear HO_18; clear BK248; clear HB; have HO_5 := n0_; have HO_18 := n1_; have BK248 := n2_; have HB := n3_; clear n0_ n1_ n2_ n3_; (try clear hb); (try clear hb2); (try clear hk); (try clear hi))); try go_wp2_with (first | (go_at_call 20; (with_reducible refine (chars_Extends.calls kj26 (wrap64 (bt t243 x8_3)) false _ A41.out).mono ?_); rintro e w54 ⟨rfl, hb⟩; have n0_ := Aside0.mk (Kd.R_below (by (with_reducible repeat (first | apply Kd.R_alloc | apply Kd.R_drewN | apply Kd.R_drew)); exact HO_5.out) hb); have n1_ := Aside0.mk (Kd.R_below (by (with_reducible repeat (first | apply Kd.R_alloc | apply Kd.R_drewN | apply Kd.R_drew)); exact HO_18.out) hb); have n2_ := Aside0.mk (blk_below (g := gb248) (o := .cells #[.int .i64 ((rd_T30 t244 x20_1).f0), .int .i64 ((rd_T30 t244 x20_1).f1)] 30 (0, 0)) (by (with_reducible repeat (first | refine blk_drewN ?_ _ | refine blk_drew ?_ | refine blk_alloc ?_ _)); exact BK248.out) hb); have n3_ := Aside0.mk (below_step (by repeat (first | (with_reducible first | exact HB.out | apply below_alloc | apply pw_below_drewN | apply below_drew1 | refine below_set ?_ GE248.out) | exact HB.out)) hb); clear HO_5; clear HO_18; clear BK248; clear HB; have HO_5 := n0_; have HO_18 := n1_; have BK248 := n2_; have HB := n3_; clear n0_ n1_ n2_ n3_; (try clear hb); (try clear hb2); (try clear hk); (try clear hi))))
                                          go_meet
                                          case rel => exact ⟨_, (false), (by first | rfl | (simp; done) | (simp [*]; done)), H', ⟨by have := HK1.out; have := HJ11.out; have := HK3.out; have := HJ26.out; first | omega | exact Nat.le_refl _⟩, ⟨by (with_reducible repeat (first | apply Kd.R_alloc | apply Kd.R_drewN | apply Kd.R_drew)); exact HO_5.out⟩, ⟨by (with_reducible repeat (first | apply Kd.R_alloc | apply Kd.R_drewN | apply Kd.R_drew)); exact HO_18.out⟩, ⟨by (with_reducible repeat (first | refine blk_drewN ?_ _ | refine blk_drew ?_ | refine blk_alloc ?_ _)); exact BK248.out⟩, ⟨by repeat (first | (with_reducible first | exact HB.out | apply below_alloc | apply pw_below_drewN | apply below_drew1 | refine below_set ?_ GE248.out) | exact HB.out)⟩⟩
                                    · rw [if_neg c39] at H
                                      exact absurd H (by simp)
                                  · rw [if_neg c38] at H
                                    exact absurd H (by simp)
                                case rest =>
                                  clear HC37
                                  try clear c1
                                  try clear c2
                                  try clear p2
                                  try clear q2
                                  try clear hx2
                                  try clear c3
                                  try clear p3
                                  try clear q3
                                  try clear hx3
                                  try clear c4
                                  try clear p4
                                  try clear q4
                                  try clear hx4
                                  try clear c6
                                  try clear p6
                                  try clear c9
                                  try clear c9b0
                                  try clear c10
                                  try clear c10b0
                                  try clear c11
                                  try clear c11b0
                                  try clear c15
                                  try clear c15b0
                                  try clear c17
                                  try clear c17b0
                                  try clear c20
                                  try clear c22
                                  try clear c22b0
                                  try clear c23
                                  try clear c23b0
                                  try clear c24
                                  try clear c24b0
                                  try clear p24
                                  try clear q24
                                  try clear hx24
                                  try clear p25
                                  try clear q25
                                  try clear hx25
                                  try clear c30
                                  try clear c30b0
                                  try clear c32
                                  try clear c32b0
                                  try clear c33
                                  try clear c33b0
                                  try clear p34
                                  try clear q34
                                  try clear hx34
                                  try clear c38
                                  try clear c38b0
                                  try clear c39
                                  try clear c39b0
                                  try clear p40
                                  try clear q40
                                  try clear hx40
                                  try clear c42
                                  try clear c44
                                  try clear c44b0
                                  try clear c44b1
                                  try clear c45
                                  try clear c45b0
                                  try clear c47
                                  try clear c47b0
                                  try clear c48
                                  try clear c48b0
                                  try clear p49
                                  try clear q49
                                  try clear hx49
                                  try clear hcz14_0
                                  try clear hcz14_1
                                  try clear hcz16_0
                                  try clear hcz16_1
                                  try clear hcz18_0
                                  try clear hcz18_1
                                  try clear hcz19_0
                                  try clear hcz19_1
                                  try clear hcz21_0
                                  try clear hcz21_1
                                  try clear hcz28_0
                                  try clear hcz28_1
                                  try clear hfz14_0
                                  try clear hfz14_1
                                  try clear hfz16_0
                                  try clear hfz16_1
                                  try clear hfz18_0
                                  try clear hfz18_1
                                  try clear hfz19_0
                                  try clear hfz19_1
                                  try clear hfz21_0
                                  try clear hfz21_1
                                  try clear hfz28_0
                                  try clear hfz28_1
                                  try clear hx247_0
                                  try clear hx247_1
                                  try clear p2
                                  try clear p24
                                  try clear p247
                                  try clear p25
                                  try clear p3
                                  try clear p34
                                  try clear p40
                                  try clear p49
                                  try clear p6
                                  try clear q2
                                  try clear q24
                                  try clear q247
                                  try clear q25
                                  try clear q3
                                  try clear q34
                                  try clear q40
                                  try clear q49
                                  obtain ⟨kq, x11_36, rfl, HA, HJ36, HO_5, HO_18, BK248, HB⟩ := hcut
                                  cases kq with
                                  | zero => exact absurd HA.out (by simp [abugidalaw06_ClusterBelongs.j4])
                                  | succ kj36 =>
                                    have H := HA.out
                                    clear HA
                                    simp only [abugidalaw06_ClusterBelongs.j4] at H
                                    have HC55 := Aside0.mk H
                                    clear H
                                    go_upto_region 15 with (fail)
                                    repeat (go_quiet (fail); go_upto_region 15 with (fail))
                                    go_cut [12] (fun v12 wc => ∃ (kq : Nat) (x12_54 : Bool), v12 = .bool x12_54 ∧ Aside0 (abugidalaw06_ClusterBelongs.j5 kq t242 t243 t244 x20_1 x8_3 x10_26 x11_36 x12_54 t244 (t244.length : Int) x20_1 ((rd_T30 t244 x20_1).f0) ((rd_T30 t244 x20_1).f1) = some r) ∧ Aside0 (kq ≤ kj36) ∧ Aside0 (Kd.R k30 30 wc w.heap.size (fun k_ => k_ ≠ gb248) (.slice (some ad247) t244.length co8) t244) ∧ Aside0 (Kd.R k30 30 wc w.heap.size (fun k_ => k_ ≠ gb248) (.slice (some ad247) t244.length co8) t244) ∧ Aside0 (wc.heap[gb248]? = some (.cells #[.int .i64 ((rd_T30 t244 x20_1).f0), .int .i64 ((rd_T30 t244 x20_1).f1)] 30 (0, 0))) ∧ Aside0 (Below w.heap.size w wc))
                                    case first =>
                                      have H := HC55.out
                                      clear HC55
                                      by_cases c56 : x20_1 > 0
                                      · rw [if_pos c56] at H
                                        have c56b0 : decide (0 < x20_1) = true := decide_eq_true c56
                                        clear c56
                                        (first | rw [c56b0] | (simp only [i64_w, i32_w]; rw [c56b0]) | skip)
                                        obtain ⟨ji57, hji57⟩ : ∃ j_ : Int, (wrap64 (x20_1 - 1)) = j_ := ⟨_, rfl⟩
                                        replace H : (if 0 ≤ (ji57) then (if (ji57) < (t244.length : Int) then (abugidalaw06_ClusterBelongs.j5 kj36 t242 t243 t244 x20_1 x8_3 x10_26 x11_36 ((wrap64 (((rd_T30 t244 (ji57)).f1) - ((rd_T30 t244 (ji57)).f0))) == 6) t244 (t244.length : Int) x20_1 ((rd_T30 t244 x20_1).f0) ((rd_T30 t244 x20_1).f1)) else (none)) else (none)) = some r := by first | (rw [hji57] at H; exact H) | (simp only [hji57] at H ⊢; exact H)
                                        have hji57w : (IntKind.i64.wrap (x20_1 - 1)) = ji57 := (i64_w _).trans hji57
                                        by_cases c58 : 0 ≤ (ji57)
                                        · rw [if_pos c58] at H
                                          have c58b0 : decide (0 ≤ (ji57)) = true := decide_eq_true c58
                                          clear c58
                                          by_cases c59 : (ji57) < (t244.length : Int)
                                          · rw [if_pos c59] at H
                                            have c59b0 : decide ((ji57) < (t244.length : Int)) = true := decide_eq_true c59
                                            clear c59
                                            have H' := Aside0.mk H
                                            clear H
                                            have p253 : 0 ≤ ((ji57) : Int) := of_decide_eq_true (by first | (with_reducible assumption) | assumption)
                                            have q253 : (ji57) < (t244.length : Int) := of_decide_eq_true (by first | (with_reducible assumption) | assumption)
                                            obtain ⟨ad253, e253, hx253_0, hx253_1⟩ := at_T30 (Kd.R_reads' HO_5.out).2.2 (ji57) p253 q253
                                            obtain rfl : ad247 = ad253 := (by injection e253)
                                            replace p253 := eq_true p253
                                            replace q253 := eq_true q253
                                            have p254 : 0 ≤ ((ji57) : Int) := of_decide_eq_true (by first | (with_reducible assumption) | assumption)
                                            have q254 : (ji57) < (t244.length : Int) := of_decide_eq_true (by first | (with_reducible assumption) | assumption)
                                            obtain ⟨ad254, e254, hx254_0, hx254_1⟩ := at_T30 (Kd.R_reads' HO_5.out).2.2 (ji57) p254 q254
                                            obtain rfl : ad247 = ad254 := (by injection e254)
                                            replace p254 := eq_true p254
                                            replace q254 := eq_true q254
                                            go_wp2
                                            repeat (go_quiet (fail); try go_wp2)
                                            go_meet
                                            case rel => exact ⟨_, (((wrap64 (((rd_T30 t244 (ji57)).f1) - ((rd_T30 t244 (ji57)).f0))) == 6)), (by first | rfl | (simp; done) | (simp only [← hji57] <;> (first | rfl | simp)) | (simp [*]; done)), H', ⟨by have := HK1.out; have := HJ11.out; have := HK3.out; have := HJ26.out; have := HJ36.out; first | omega | exact Nat.le_refl _⟩, ⟨by (with_reducible repeat (first | apply Kd.R_alloc | apply Kd.R_drewN | apply Kd.R_drew)); exact HO_5.out⟩, ⟨by (with_reducible repeat (first | apply Kd.R_alloc | apply Kd.R_drewN | apply Kd.R_drew)); exact HO_18.out⟩, ⟨by (with_reducible repeat (first | refine blk_drewN ?_ _ | refine blk_drew ?_ | refine blk_alloc ?_ _)); exact BK248.out⟩, ⟨by repeat (first | (with_reducible first | exact HB.out | apply below_alloc | apply pw_below_drewN | apply below_drew1 | refine below_set ?_ GE248.out) | exact HB.out)⟩⟩
                                          · rw [if_neg c59] at H
                                            exact absurd H (by simp)
                                        · rw [if_neg c58] at H
                                          exact absurd H (by simp)
                                      · rw [if_neg c56] at H
                                        have c56b0 : decide (0 < x20_1) = false := decide_eq_false c56
                                        clear c56
                                        (first | rw [c56b0] | (simp only [i64_w, i32_w]; rw [c56b0]) | skip)
                                        have H' := Aside0.mk H
                                        clear H
                                        go_wp2
                                        repeat (go_quiet (fail); try go_wp2)
                                        go_meet
                                        case rel => exact ⟨_, (false), (by first | rfl | (simp; done) | (simp [*]; done)), H', ⟨by have := HK1.out; have := HJ11.out; have := HK3.out; have := HJ26.out; have := HJ36.out; first | omega | exact Nat.le_refl _⟩, ⟨by (with_reducible repeat (first | apply Kd.R_alloc | apply Kd.R_drewN | apply Kd.R_drew)); exact HO_5.out⟩, ⟨by (with_reducible repeat (first | apply Kd.R_alloc | apply Kd.R_drewN | apply Kd.R_drew)); exact HO_18.out⟩, ⟨by (with_reducible repeat (first | refine blk_drewN ?_ _ | refine blk_drew ?_ | refine blk_alloc ?_ _)); exact BK248.out⟩, ⟨by repeat (first | (with_reducible first | exact HB.out | apply below_alloc | apply pw_below_drewN | apply below_drew1 | refine below_set ?_ GE248.out) | exact HB.out)⟩⟩
                                    case rest =>
                                      clear HC55
                                      try clear c1
                                      try clear c2
                                      try clear p2
                                      try clear q2
                                      try clear hx2
                                      try clear c3
                                      try clear p3
                                      try clear q3
                                      try clear hx3
                                      try clear c4
                                      try clear p4
                                      try clear q4
                                      try clear hx4
                                      try clear c5
                                      try clear c6
                                      try clear p6
                                      try clear c9
                                      try clear c9b0
                                      try clear c10
                                      try clear c10b0
                                      try clear c11
                                      try clear c11b0
                                      try clear c15
                                      try clear c15b0
                                      try clear c17
                                      try clear c17b0
                                      try clear c20
                                      try clear c22
                                      try clear c22b0
                                      try clear c23
                                      try clear c23b0
                                      try clear c24
                                      try clear c24b0
                                      try clear p24
                                      try clear q24
                                      try clear hx24
                                      try clear p25
                                      try clear q25
                                      try clear hx25
                                      try clear c30
                                      try clear c30b0
                                      try clear c32
                                      try clear c32b0
                                      try clear c33
                                      try clear c33b0
                                      try clear p34
                                      try clear q34
                                      try clear hx34
                                      try clear c38
                                      try clear c38b0
                                      try clear c39
                                      try clear c39b0
                                      try clear p40
                                      try clear q40
                                      try clear hx40
                                      try clear c42
                                      try clear c44
                                      try clear c44b0
                                      try clear c44b1
                                      try clear c45
                                      try clear c45b0
                                      try clear c47
                                      try clear c47b0
                                      try clear c48
                                      try clear c48b0
                                      try clear p49
                                      try clear q49
                                      try clear hx49
                                      try clear c56
                                      try clear c56b0
                                      try clear c58
                                      try clear c58b0
                                      try clear c59
                                      try clear c59b0
                                      try clear hcz14_0
                                      try clear hcz14_1
                                      try clear hcz16_0
                                      try clear hcz16_1
                                      try clear hcz18_0
                                      try clear hcz18_1
                                      try clear hcz19_0
                                      try clear hcz19_1
                                      try clear hcz21_0
                                      try clear hcz21_1
                                      try clear hcz28_0
                                      try clear hcz28_1
                                      try clear hfz14_0
                                      try clear hfz14_1
                                      try clear hfz16_0
                                      try clear hfz16_1
                                      try clear hfz18_0
                                      try clear hfz18_1
                                      try clear hfz19_0
                                      try clear hfz19_1
                                      try clear hfz21_0
                                      try clear hfz21_1
                                      try clear hfz28_0
                                      try clear hfz28_1
                                      try clear hx247_0
                                      try clear hx247_1
                                      try clear hx253_0
                                      try clear hx253_1
                                      try clear hx254_0
                                      try clear hx254_1
                                      try clear p2
                                      try clear p24
                                      try clear p247
                                      try clear p25
                                      try clear p253
                                      try clear p254
                                      try clear p3
                                      try clear p34
                                      try clear p4
                                      try clear p40
                                      try clear p49
                                      try clear p6
                                      try clear q2
                                      try clear q24
                                      try clear q247
                                      try clear q25
                                      try clear q253
                                      try clear q254
                                      try clear q3
                                      try clear q34
                                      try clear q4
                                      try clear q40
                                      try clear q49
                                      obtain ⟨kq, x12_54, rfl, HA, HJ54, HO_5, HO_18, BK248, HB⟩ := hcut
                                      cases kq with
                                      | zero => exact absurd HA.out (by simp [abugidalaw06_ClusterBelongs.j5])
                                      | succ kj54 =>
                                        have H := HA.out
                                        clear HA
                                        simp only [abugidalaw06_ClusterBelongs.j5] at H
                                        have HC60 := Aside0.mk H
                                        clear H
                                        go_upto_region 16 with (fail)
                                        repeat (go_quiet (fail); go_upto_region 16 with (fail))
                                        go_cut [137] (fun v137 wc => ∃ (kq : Nat) (x137_59 : Bool), v137 = .bool x137_59 ∧ Aside0 (abugidalaw06_ClusterBelongs.j6 kq t242 t243 t244 x20_1 x8_3 t244 (t244.length : Int) x20_1 x137_59 ((rd_T30 t244 x20_1).f0) ((rd_T30 t244 x20_1).f1) = some r) ∧ Aside0 (kq ≤ kj54) ∧ Aside0 (Kd.R k30 30 wc w.heap.size (fun k_ => k_ ≠ gb248) (.slice (some ad247) t244.length co8) t244) ∧ Aside0 (Kd.R k30 30 wc w.heap.size (fun k_ => k_ ≠ gb248) (.slice (some ad247) t244.length co8) t244) ∧ Aside0 (wc.heap[gb248]? = some (.cells #[.int .i64 ((rd_T30 t244 x20_1).f0), .int .i64 ((rd_T30 t244 x20_1).f1)] 30 (0, 0))) ∧ Aside0 (Below w.heap.size w wc))
                                        case first =>
                                          have H := HC60.out
                                          clear HC60
                                          by_cases c61 : x8_3 > ((rd_T30 t244 x20_1).f0)
                                          · rw [if_pos c61] at H
                                            have c61b0 : decide (((rd_T30 t244 x20_1).f0) < x8_3) = true := decide_eq_true c61
                                            clear c61
                                            (first | rw [c61b0] | (simp only [i64_w, i32_w]; rw [c61b0]) | skip)
                                            by_cases c62 : x11_36 = true
                                            · subst c62
                                              have H1 : (if x10_26 = true then (abugidalaw06_ClusterBelongs.j6 kj54 t242 t243 t244 x20_1 x8_3 t244 (t244.length : Int) x20_1 true ((rd_T30 t244 x20_1).f0) ((rd_T30 t244 x20_1).f1)) else (if x8_3 = ((rd_T30 t244 x20_1).f0) then (if x8_3 > 0 then (abugidalaw06_ClusterBelongs.j6 kj54 t242 t243 t244 x20_1 x8_3 t244 (t244.length : Int) x20_1 (!x12_54) ((rd_T30 t244 x20_1).f0) ((rd_T30 t244 x20_1).f1)) else (abugidalaw06_ClusterBelongs.j6 kj54 t242 t243 t244 x20_1 x8_3 t244 (t244.length : Int) x20_1 false ((rd_T30 t244 x20_1).f0) ((rd_T30 t244 x20_1).f1))) else (abugidalaw06_ClusterBelongs.j6 kj54 t242 t243 t244 x20_1 x8_3 t244 (t244.length : Int) x20_1 false ((rd_T30 t244 x20_1).f0) ((rd_T30 t244 x20_1).f1)))) = some r := by rw [if_pos rfl] at H; exact H
                                              clear H
                                              have H := H1
                                              clear H1
                                              by_cases c63 : x10_26 = true
                                              · subst c63
                                                have H1 : (abugidalaw06_ClusterBelongs.j6 kj54 t242 t243 t244 x20_1 x8_3 t244 (t244.length : Int) x20_1 true ((rd_T30 t244 x20_1).f0) ((rd_T30 t244 x20_1).f1)) = some r := by rw [if_pos rfl] at H; exact H
                                                clear H
                                                have H := H1
                                                clear H1
                                                have H' := Aside0.mk H
                                                clear H
                                                have hcz64_0 : wc.cell? ⟨gb248, 0, none⟩ = some (.int .i64 ((rd_T30 t244 x20_1).f0)) := (blk_cell BK248.out 0).trans rfl
                                                have hcz64_1 : wc.cell? ⟨gb248, 1, none⟩ = some (.int .i64 ((rd_T30 t244 x20_1).f1)) := (blk_cell BK248.out 1).trans rfl
                                                have hfz64_0 := blk_frozen BK248.out 0
                                                have hfz64_1 := blk_frozen BK248.out 1
                                                go_wp2
                                                repeat (go_quiet (fail); try go_wp2)
                                                go_meet
                                                case rel => exact ⟨_, (true), (by first | rfl | (simp; done) | (simp [*]; done)), H', ⟨by have := HK1.out; have := HJ11.out; have := HK3.out; have := HJ26.out; have := HJ36.out; have := HJ54.out; first | omega | exact Nat.le_refl _⟩, ⟨by (with_reducible repeat (first | apply Kd.R_alloc | apply Kd.R_drewN | apply Kd.R_drew)); exact HO_5.out⟩, ⟨by (with_reducible repeat (first | apply Kd.R_alloc | apply Kd.R_drewN | apply Kd.R_drew)); exact HO_18.out⟩, ⟨by (with_reducible repeat (first | refine blk_drewN ?_ _ | refine blk_drew ?_ | refine blk_alloc ?_ _)); exact BK248.out⟩, ⟨by repeat (first | (with_reducible first | exact HB.out | apply below_alloc | apply pw_below_drewN | apply below_drew1 | refine below_set ?_ GE248.out) | exact HB.out)⟩⟩
                                              · replace c63 := Bool.eq_false_iff.mpr c63
                                                subst c63
                                                have H1 : (if x8_3 = ((rd_T30 t244 x20_1).f0) then (if x8_3 > 0 then (abugidalaw06_ClusterBelongs.j6 kj54 t242 t243 t244 x20_1 x8_3 t244 (t244.length : Int) x20_1 (!x12_54) ((rd_T30 t244 x20_1).f0) ((rd_T30 t244 x20_1).f1)) else (abugidalaw06_ClusterBelongs.j6 kj54 t242 t243 t244 x20_1 x8_3 t244 (t244.length : Int) x20_1 false ((rd_T30 t244 x20_1).f0) ((rd_T30 t244 x20_1).f1))) else (abugidalaw06_ClusterBelongs.j6 kj54 t242 t243 t244 x20_1 x8_3 t244 (t244.length : Int) x20_1 false ((rd_T30 t244 x20_1).f0) ((rd_T30 t244 x20_1).f1))) = some r := by rw [if_neg (show ¬ (false = true) by decide)] at H; exact H
                                                clear H
                                                have H := H1
                                                clear H1
                                                by_cases c65 : x8_3 = ((rd_T30 t244 x20_1).f0)
                                                · rw [if_pos c65] at H
                                                  have c65b0 : (x8_3 == ((rd_T30 t244 x20_1).f0)) = true := beq_iff_eq.mpr c65
                                                  have c65b1 : (x8_3 != ((rd_T30 t244 x20_1).f0)) = false := bne_eq_false_iff_eq.mpr c65
                                                  clear c65
                                                  by_cases c66 : x8_3 > 0
                                                  · rw [if_pos c66] at H
                                                    have c66b0 : decide (0 < x8_3) = true := decide_eq_true c66
                                                    clear c66
                                                    have H' := Aside0.mk H
                                                    clear H
                                                    have hcz67_0 : wc.cell? ⟨gb248, 0, none⟩ = some (.int .i64 ((rd_T30 t244 x20_1).f0)) := (blk_cell BK248.out 0).trans rfl
                                                    have hcz67_1 : wc.cell? ⟨gb248, 1, none⟩ = some (.int .i64 ((rd_T30 t244 x20_1).f1)) := (blk_cell BK248.out 1).trans rfl
                                                    have hfz67_0 := blk_frozen BK248.out 0
                                                    have hfz67_1 := blk_frozen BK248.out 1
                                                    go_wp2
                                                    repeat (go_quiet (fail); try go_wp2)
                                                    go_meet
                                                    case rel => exact ⟨_, (!x12_54), (by first | rfl | (simp; done) | (simp [*]; done)), H', ⟨by have := HK1.out; have := HJ11.out; have := HK3.out; have := HJ26.out; have := HJ36.out; have := HJ54.out; first | omega | exact Nat.le_refl _⟩, ⟨by (with_reducible repeat (first | apply Kd.R_alloc | apply Kd.R_drewN | apply Kd.R_drew)); exact HO_5.out⟩, ⟨by (with_reducible repeat (first | apply Kd.R_alloc | apply Kd.R_drewN | apply Kd.R_drew)); exact HO_18.out⟩, ⟨by (with_reducible repeat (first | refine blk_drewN ?_ _ | refine blk_drew ?_ | refine blk_alloc ?_ _)); exact BK248.out⟩, ⟨by repeat (first | (with_reducible first | exact HB.out | apply below_alloc | apply pw_below_drewN | apply below_drew1 | refine below_set ?_ GE248.out) | exact HB.out)⟩⟩
                                                  · rw [if_neg c66] at H
                                                    have c66b0 : decide (0 < x8_3) = false := decide_eq_false c66
                                                    clear c66
                                                    have H' := Aside0.mk H
                                                    clear H
                                                    have hcz68_0 : wc.cell? ⟨gb248, 0, none⟩ = some (.int .i64 ((rd_T30 t244 x20_1).f0)) := (blk_cell BK248.out 0).trans rfl
                                                    have hcz68_1 : wc.cell? ⟨gb248, 1, none⟩ = some (.int .i64 ((rd_T30 t244 x20_1).f1)) := (blk_cell BK248.out 1).trans rfl
                                                    have hfz68_0 := blk_frozen BK248.out 0
                                                    have hfz68_1 := blk_frozen BK248.out 1
                                                    go_wp2
                                                    repeat (go_quiet (fail); try go_wp2)
                                                    go_meet
                                                    case rel => exact ⟨_, (false), (by first | rfl | (simp; done) | (simp [*]; done)), H', ⟨by have := HK1.out; have := HJ11.out; have := HK3.out; have := HJ26.out; have := HJ36.out; have := HJ54.out; first | omega | exact Nat.le_refl _⟩, ⟨by (with_reducible repeat (first | apply Kd.R_alloc | apply Kd.R_drewN | apply Kd.R_drew)); exact HO_5.out⟩, ⟨by (with_reducible repeat (first | apply Kd.R_alloc | apply Kd.R_drewN | apply Kd.R_drew)); exact HO_18.out⟩, ⟨by (with_reducible repeat (first | refine blk_drewN ?_ _ | refine blk_drew ?_ | refine blk_alloc ?_ _)); exact BK248.out⟩, ⟨by repeat (first | (with_reducible first | exact HB.out | apply below_alloc | apply pw_below_drewN | apply below_drew1 | refine below_set ?_ GE248.out) | exact HB.out)⟩⟩
                                                · rw [if_neg c65] at H
                                                  have c65b0 : (x8_3 == ((rd_T30 t244 x20_1).f0)) = false := beq_eq_false_iff_ne.mpr c65
                                                  have c65b1 : (x8_3 != ((rd_T30 t244 x20_1).f0)) = true := bne_iff_ne.mpr c65
                                                  have H' := Aside0.mk H
                                                  clear H
                                                  have hcz69_0 : wc.cell? ⟨gb248, 0, none⟩ = some (.int .i64 ((rd_T30 t244 x20_1).f0)) := (blk_cell BK248.out 0).trans rfl
                                                  have hcz69_1 : wc.cell? ⟨gb248, 1, none⟩ = some (.int .i64 ((rd_T30 t244 x20_1).f1)) := (blk_cell BK248.out 1).trans rfl
                                                  have hfz69_0 := blk_frozen BK248.out 0
                                                  have hfz69_1 := blk_frozen BK248.out 1
                                                  go_wp2
                                                  repeat (go_quiet (fail); try go_wp2)
                                                  go_meet
                                                  case rel => exact ⟨_, (false), (by first | rfl | (simp; done) | (simp [*]; done)), H', ⟨by have := HK1.out; have := HJ11.out; have := HK3.out; have := HJ26.out; have := HJ36.out; have := HJ54.out; first | omega | exact Nat.le_refl _⟩, ⟨by (with_reducible repeat (first | apply Kd.R_alloc | apply Kd.R_drewN | apply Kd.R_drew)); exact HO_5.out⟩, ⟨by (with_reducible repeat (first | apply Kd.R_alloc | apply Kd.R_drewN | apply Kd.R_drew)); exact HO_18.out⟩, ⟨by (with_reducible repeat (first | refine blk_drewN ?_ _ | refine blk_drew ?_ | refine blk_alloc ?_ _)); exact BK248.out⟩, ⟨by repeat (first | (with_reducible first | exact HB.out | apply below_alloc | apply pw_below_drewN | apply below_drew1 | refine below_set ?_ GE248.out) | exact HB.out)⟩⟩
                                            · replace c62 := Bool.eq_false_iff.mpr c62
                                              subst c62
                                              have H1 : (abugidalaw06_ClusterBelongs.j6 kj54 t242 t243 t244 x20_1 x8_3 t244 (t244.length : Int) x20_1 true ((rd_T30 t244 x20_1).f0) ((rd_T30 t244 x20_1).f1)) = some r := by rw [if_neg (show ¬ (false = true) by decide)] at H; exact H
                                              clear H
                                              have H := H1
                                              clear H1
                                              have H' := Aside0.mk H
                                              clear H
                                              have hcz70_0 : wc.cell? ⟨gb248, 0, none⟩ = some (.int .i64 ((rd_T30 t244 x20_1).f0)) := (blk_cell BK248.out 0).trans rfl
                                              have hcz70_1 : wc.cell? ⟨gb248, 1, none⟩ = some (.int .i64 ((rd_T30 t244 x20_1).f1)) := (blk_cell BK248.out 1).trans rfl
                                              have hfz70_0 := blk_frozen BK248.out 0
                                              have hfz70_1 := blk_frozen BK248.out 1
                                              go_wp2
                                              repeat (go_quiet (fail); try go_wp2)
                                              go_meet
                                              case rel => exact ⟨_, (true), (by first | rfl | (simp; done) | (simp [*]; done)), H', ⟨by have := HK1.out; have := HJ11.out; have := HK3.out; have := HJ26.out; have := HJ36.out; have := HJ54.out; first | omega | exact Nat.le_refl _⟩, ⟨by (with_reducible repeat (first | apply Kd.R_alloc | apply Kd.R_drewN | apply Kd.R_drew)); exact HO_5.out⟩, ⟨by (with_reducible repeat (first | apply Kd.R_alloc | apply Kd.R_drewN | apply Kd.R_drew)); exact HO_18.out⟩, ⟨by (with_reducible repeat (first | refine blk_drewN ?_ _ | refine blk_drew ?_ | refine blk_alloc ?_ _)); exact BK248.out⟩, ⟨by repeat (first | (with_reducible first | exact HB.out | apply below_alloc | apply pw_below_drewN | apply below_drew1 | refine below_set ?_ GE248.out) | exact HB.out)⟩⟩
                                          · rw [if_neg c61] at H
                                            have c61b0 : decide (((rd_T30 t244 x20_1).f0) < x8_3) = false := decide_eq_false c61
                                            clear c61
                                            (first | rw [c61b0] | (simp only [i64_w, i32_w]; rw [c61b0]) | skip)
                                            by_cases c71 : x8_3 = ((rd_T30 t244 x20_1).f0)
                                            · rw [if_pos c71] at H
                                              have c71b0 : (x8_3 == ((rd_T30 t244 x20_1).f0)) = true := beq_iff_eq.mpr c71
                                              have c71b1 : (x8_3 != ((rd_T30 t244 x20_1).f0)) = false := bne_eq_false_iff_eq.mpr c71
                                              clear c71
                                              by_cases c72 : x11_36 = true
                                              · subst c72
                                                have H1 : (if x8_3 > 0 then (if x10_26 = true then (abugidalaw06_ClusterBelongs.j6 kj54 t242 t243 t244 x20_1 x8_3 t244 (t244.length : Int) x20_1 false ((rd_T30 t244 x20_1).f0) ((rd_T30 t244 x20_1).f1)) else (abugidalaw06_ClusterBelongs.j6 kj54 t242 t243 t244 x20_1 x8_3 t244 (t244.length : Int) x20_1 (!x12_54) ((rd_T30 t244 x20_1).f0) ((rd_T30 t244 x20_1).f1))) else (abugidalaw06_ClusterBelongs.j6 kj54 t242 t243 t244 x20_1 x8_3 t244 (t244.length : Int) x20_1 false ((rd_T30 t244 x20_1).f0) ((rd_T30 t244 x20_1).f1))) = some r := by rw [if_pos rfl] at H; exact H
                                                clear H
                                                have H := H1
                                                clear H1
                                                by_cases c73 : x8_3 > 0
                                                · rw [if_pos c73] at H
                                                  have c73b0 : decide (0 < x8_3) = true := decide_eq_true c73
                                                  clear c73
                                                  by_cases c74 : x10_26 = true
                                                  · subst c74
                                                    have H1 : (abugidalaw06_ClusterBelongs.j6 kj54 t242 t243 t244 x20_1 x8_3 t244 (t244.length : Int) x20_1 false ((rd_T30 t244 x20_1).f0) ((rd_T30 t244 x20_1).f1)) = some r := by rw [if_pos rfl] at H; exact H
                                                    clear H
                                                    have H := H1
                                                    clear H1
                                                    have H' := Aside0.mk H
                                                    clear H
                                                    have hcz75_0 : wc.cell? ⟨gb248, 0, none⟩ = some (.int .i64 ((rd_T30 t244 x20_1).f0)) := (blk_cell BK248.out 0).trans rfl
                                                    have hcz75_1 : wc.cell? ⟨gb248, 1, none⟩ = some (.int .i64 ((rd_T30 t244 x20_1).f1)) := (blk_cell BK248.out 1).trans rfl
                                                    have hfz75_0 := blk_frozen BK248.out 0
                                                    have hfz75_1 := blk_frozen BK248.out 1
                                                    go_wp2
                                                    repeat (go_quiet (fail); try go_wp2)
                                                    go_meet
                                                    case rel => exact ⟨_, (false), (by first | rfl | (simp; done) | (simp [*]; done)), H', ⟨by have := HK1.out; have := HJ11.out; have := HK3.out; have := HJ26.out; have := HJ36.out; have := HJ54.out; first | omega | exact Nat.le_refl _⟩, ⟨by (with_reducible repeat (first | apply Kd.R_alloc | apply Kd.R_drewN | apply Kd.R_drew)); exact HO_5.out⟩, ⟨by (with_reducible repeat (first | apply Kd.R_alloc | apply Kd.R_drewN | apply Kd.R_drew)); exact HO_18.out⟩, ⟨by (with_reducible repeat (first | refine blk_drewN ?_ _ | refine blk_drew ?_ | refine blk_alloc ?_ _)); exact BK248.out⟩, ⟨by repeat (first | (with_reducible first | exact HB.out | apply below_alloc | apply pw_below_drewN | apply below_drew1 | refine below_set ?_ GE248.out) | exact HB.out)⟩⟩
                                                  · replace c74 := Bool.eq_false_iff.mpr c74
                                                    subst c74
                                                    have H1 : (abugidalaw06_ClusterBelongs.j6 kj54 t242 t243 t244 x20_1 x8_3 t244 (t244.length : Int) x20_1 (!x12_54) ((rd_T30 t244 x20_1).f0) ((rd_T30 t244 x20_1).f1)) = some r := by rw [if_neg (show ¬ (false = true) by decide)] at H; exact H
                                                    clear H
                                                    have H := H1
                                                    clear H1
                                                    have H' := Aside0.mk H
                                                    clear H
                                                    have hcz76_0 : wc.cell? ⟨gb248, 0, none⟩ = some (.int .i64 ((rd_T30 t244 x20_1).f0)) := (blk_cell BK248.out 0).trans rfl
                                                    have hcz76_1 : wc.cell? ⟨gb248, 1, none⟩ = some (.int .i64 ((rd_T30 t244 x20_1).f1)) := (blk_cell BK248.out 1).trans rfl
                                                    have hfz76_0 := blk_frozen BK248.out 0
                                                    have hfz76_1 := blk_frozen BK248.out 1
                                                    go_wp2
                                                    repeat (go_quiet (fail); try go_wp2)
                                                    go_meet
                                                    case rel => exact ⟨_, (!x12_54), (by first | rfl | (simp; done) | (simp [*]; done)), H', ⟨by have := HK1.out; have := HJ11.out; have := HK3.out; have := HJ26.out; have := HJ36.out; have := HJ54.out; first | omega | exact Nat.le_refl _⟩, ⟨by (with_reducible repeat (first | apply Kd.R_alloc | apply Kd.R_drewN | apply Kd.R_drew)); exact HO_5.out⟩, ⟨by (with_reducible repeat (first | apply Kd.R_alloc | apply Kd.R_drewN | apply Kd.R_drew)); exact HO_18.out⟩, ⟨by (with_reducible repeat (first | refine blk_drewN ?_ _ | refine blk_drew ?_ | refine blk_alloc ?_ _)); exact BK248.out⟩, ⟨by repeat (first | (with_reducible first | exact HB.out | apply below_alloc | apply pw_below_drewN | apply below_drew1 | refine below_set ?_ GE248.out) | exact HB.out)⟩⟩
                                                · rw [if_neg c73] at H
                                                  have c73b0 : decide (0 < x8_3) = false := decide_eq_false c73
                                                  clear c73
                                                  have H' := Aside0.mk H
                                                  clear H
                                                  have hcz77_0 : wc.cell? ⟨gb248, 0, none⟩ = some (.int .i64 ((rd_T30 t244 x20_1).f0)) := (blk_cell BK248.out 0).trans rfl
                                                  have hcz77_1 : wc.cell? ⟨gb248, 1, none⟩ = some (.int .i64 ((rd_T30 t244 x20_1).f1)) := (blk_cell BK248.out 1).trans rfl
                                                  have hfz77_0 := blk_frozen BK248.out 0
                                                  have hfz77_1 := blk_frozen BK248.out 1
                                                  go_wp2
                                                  repeat (go_quiet (fail); try go_wp2)
                                                  go_meet
                                                  case rel => exact ⟨_, (false), (by first | rfl | (simp; done) | (simp [*]; done)), H', ⟨by have := HK1.out; have := HJ11.out; have := HK3.out; have := HJ26.out; have := HJ36.out; have := HJ54.out; first | omega | exact Nat.le_refl _⟩, ⟨by (with_reducible repeat (first | apply Kd.R_alloc | apply Kd.R_drewN | apply Kd.R_drew)); exact HO_5.out⟩, ⟨by (with_reducible repeat (first | apply Kd.R_alloc | apply Kd.R_drewN | apply Kd.R_drew)); exact HO_18.out⟩, ⟨by (with_reducible repeat (first | refine blk_drewN ?_ _ | refine blk_drew ?_ | refine blk_alloc ?_ _)); exact BK248.out⟩, ⟨by repeat (first | (with_reducible first | exact HB.out | apply below_alloc | apply pw_below_drewN | apply below_drew1 | refine below_set ?_ GE248.out) | exact HB.out)⟩⟩
                                              · replace c72 := Bool.eq_false_iff.mpr c72
                                                subst c72
                                                have H1 : (abugidalaw06_ClusterBelongs.j6 kj54 t242 t243 t244 x20_1 x8_3 t244 (t244.length : Int) x20_1 false ((rd_T30 t244 x20_1).f0) ((rd_T30 t244 x20_1).f1)) = some r := by rw [if_neg (show ¬ (false = true) by decide)] at H; exact H
                                                clear H
                                                have H := H1
                                                clear H1
                                                have H' := Aside0.mk H
                                                clear H
                                                have hcz78_0 : wc.cell? ⟨gb248, 0, none⟩ = some (.int .i64 ((rd_T30 t244 x20_1).f0)) := (blk_cell BK248.out 0).trans rfl
                                                have hcz78_1 : wc.cell? ⟨gb248, 1, none⟩ = some (.int .i64 ((rd_T30 t244 x20_1).f1)) := (blk_cell BK248.out 1).trans rfl
                                                have hfz78_0 := blk_frozen BK248.out 0
                                                have hfz78_1 := blk_frozen BK248.out 1
                                                go_wp2
                                                repeat (go_quiet (fail); try go_wp2)
                                                go_meet
                                                case rel => exact ⟨_, (false), (by first | rfl | (simp; done) | (simp [*]; done)), H', ⟨by have := HK1.out; have := HJ11.out; have := HK3.out; have := HJ26.out; have := HJ36.out; have := HJ54.out; first | omega | exact Nat.le_refl _⟩, ⟨by (with_reducible repeat (first | apply Kd.R_alloc | apply Kd.R_drewN | apply Kd.R_drew)); exact HO_5.out⟩, ⟨by (with_reducible repeat (first | apply Kd.R_alloc | apply Kd.R_drewN | apply Kd.R_drew)); exact HO_18.out⟩, ⟨by (with_reducible repeat (first | refine blk_drewN ?_ _ | refine blk_drew ?_ | refine blk_alloc ?_ _)); exact BK248.out⟩, ⟨by repeat (first | (with_reducible first | exact HB.out | apply below_alloc | apply pw_below_drewN | apply below_drew1 | refine below_set ?_ GE248.out) | exact HB.out)⟩⟩
                                            · rw [if_neg c71] at H
                                              have c71b0 : (x8_3 == ((rd_T30 t244 x20_1).f0)) = false := beq_eq_false_iff_ne.mpr c71
                                              have c71b1 : (x8_3 != ((rd_T30 t244 x20_1).f0)) = true := bne_iff_ne.mpr c71
                                              have H' := Aside0.mk H
                                              clear H
                                              have hcz79_0 : wc.cell? ⟨gb248, 0, none⟩ = some (.int .i64 ((rd_T30 t244 x20_1).f0)) := (blk_cell BK248.out 0).trans rfl
                                              have hcz79_1 : wc.cell? ⟨gb248, 1, none⟩ = some (.int .i64 ((rd_T30 t244 x20_1).f1)) := (blk_cell BK248.out 1).trans rfl
                                              have hfz79_0 := blk_frozen BK248.out 0
                                              have hfz79_1 := blk_frozen BK248.out 1
                                              go_wp2
                                              repeat (go_quiet (fail); try go_wp2)
                                              go_meet
                                              case rel => exact ⟨_, (false), (by first | rfl | (simp; done) | (simp [*]; done)), H', ⟨by have := HK1.out; have := HJ11.out; have := HK3.out; have := HJ26.out; have := HJ36.out; have := HJ54.out; first | omega | exact Nat.le_refl _⟩, ⟨by (with_reducible repeat (first | apply Kd.R_alloc | apply Kd.R_drewN | apply Kd.R_drew)); exact HO_5.out⟩, ⟨by (with_reducible repeat (first | apply Kd.R_alloc | apply Kd.R_drewN | apply Kd.R_drew)); exact HO_18.out⟩, ⟨by (with_reducible repeat (first | refine blk_drewN ?_ _ | refine blk_drew ?_ | refine blk_alloc ?_ _)); exact BK248.out⟩, ⟨by repeat (first | (with_reducible first | exact HB.out | apply below_alloc | apply pw_below_drewN | apply below_drew1 | refine below_set ?_ GE248.out) | exact HB.out)⟩⟩
                                        case rest =>
                                          clear HC60
                                          try clear c1
                                          try clear c2
                                          try clear p2
                                          try clear q2
                                          try clear hx2
                                          try clear c3
                                          try clear p3
                                          try clear q3
                                          try clear hx3
                                          try clear c4
                                          try clear p4
                                          try clear q4
                                          try clear hx4
                                          try clear c5
                                          try clear c6
                                          try clear p6
                                          try clear c7
                                          try clear c9
                                          try clear c9b0
                                          try clear c10
                                          try clear c10b0
                                          try clear c11
                                          try clear c11b0
                                          try clear c15
                                          try clear c15b0
                                          try clear c17
                                          try clear c17b0
                                          try clear c20
                                          try clear c22
                                          try clear c22b0
                                          try clear c23
                                          try clear c23b0
                                          try clear c24
                                          try clear c24b0
                                          try clear p24
                                          try clear q24
                                          try clear hx24
                                          try clear p25
                                          try clear q25
                                          try clear hx25
                                          try clear c30
                                          try clear c30b0
                                          try clear c32
                                          try clear c32b0
                                          try clear c33
                                          try clear c33b0
                                          try clear p34
                                          try clear q34
                                          try clear hx34
                                          try clear c38
                                          try clear c38b0
                                          try clear c39
                                          try clear c39b0
                                          try clear p40
                                          try clear q40
                                          try clear hx40
                                          try clear c42
                                          try clear c44
                                          try clear c44b0
                                          try clear c44b1
                                          try clear c45
                                          try clear c45b0
                                          try clear c47
                                          try clear c47b0
                                          try clear c48
                                          try clear c48b0
                                          try clear p49
                                          try clear q49
                                          try clear hx49
                                          try clear c56
                                          try clear c56b0
                                          try clear c58
                                          try clear c58b0
                                          try clear c59
                                          try clear c59b0
                                          try clear c61
                                          try clear c61b0
                                          try clear c62
                                          try clear c63
                                          try clear p64
                                          try clear c65
                                          try clear c65b0
                                          try clear c65b1
                                          try clear c66
                                          try clear c66b0
                                          try clear c71
                                          try clear c71b0
                                          try clear c71b1
                                          try clear c72
                                          try clear c73
                                          try clear c73b0
                                          try clear c74
                                          try clear hcz14_0
                                          try clear hcz14_1
                                          try clear hcz16_0
                                          try clear hcz16_1
                                          try clear hcz18_0
                                          try clear hcz18_1
                                          try clear hcz19_0
                                          try clear hcz19_1
                                          try clear hcz21_0
                                          try clear hcz21_1
                                          try clear hcz28_0
                                          try clear hcz28_1
                                          try clear hcz64_0
                                          try clear hcz64_1
                                          try clear hcz67_0
                                          try clear hcz67_1
                                          try clear hcz68_0
                                          try clear hcz68_1
                                          try clear hcz69_0
                                          try clear hcz69_1
                                          try clear hcz70_0
                                          try clear hcz70_1
                                          try clear hcz75_0
                                          try clear hcz75_1
                                          try clear hcz76_0
                                          try clear hcz76_1
                                          try clear hcz77_0
                                          try clear hcz77_1
                                          try clear hcz78_0
                                          try clear hcz78_1
                                          try clear hcz79_0
                                          try clear hcz79_1
                                          try clear hfz14_0
                                          try clear hfz14_1
                                          try clear hfz16_0
                                          try clear hfz16_1
                                          try clear hfz18_0
                                          try clear hfz18_1
                                          try clear hfz19_0
                                          try clear hfz19_1
                                          try clear hfz21_0
                                          try clear hfz21_1
                                          try clear hfz28_0
                                          try clear hfz28_1
                                          try clear hfz64_0
                                          try clear hfz64_1
                                          try clear hfz67_0
                                          try clear hfz67_1
                                          try clear hfz68_0
                                          try clear hfz68_1
                                          try clear hfz69_0
                                          try clear hfz69_1
                                          try clear hfz70_0
                                          try clear hfz70_1
                                          try clear hfz75_0
                                          try clear hfz75_1
                                          try clear hfz76_0
                                          try clear hfz76_1
                                          try clear hfz77_0
                                          try clear hfz77_1
                                          try clear hfz78_0
                                          try clear hfz78_1
                                          try clear hfz79_0
                                          try clear hfz79_1
                                          try clear hx247_0
                                          try clear hx247_1
                                          try clear hx253_0
                                          try clear hx253_1
                                          try clear hx254_0
                                          try clear hx254_1
                                          try clear p2
                                          try clear p24
                                          try clear p247
                                          try clear p25
                                          try clear p253
                                          try clear p254
                                          try clear p3
                                          try clear p34
                                          try clear p4
                                          try clear p40
                                          try clear p49
                                          try clear p6
                                          try clear q2
                                          try clear q24
                                          try clear q247
                                          try clear q25
                                          try clear q253
                                          try clear q254
                                          try clear q3
                                          try clear q34
                                          try clear q4
                                          try clear q40
                                          try clear q49
                                          obtain ⟨kq, x137_59, rfl, HA, HJ59, HO_5, HO_18, BK248, HB⟩ := hcut
                                          cases kq with
                                          | zero => exact absurd HA.out (by simp [abugidalaw06_ClusterBelongs.j6])
                                          | succ kj59 =>
                                            have H := HA.out
                                            clear HA
                                            simp only [abugidalaw06_ClusterBelongs.j6] at H
                                            by_cases c80 : x137_59 = true
                                            · subst c80
                                              have H1 : (some false) = some r := by rw [if_pos rfl] at H; exact H
                                              clear H
                                              have H := H1
                                              clear H1
                                              obtain rfl := Option.some.inj H
                                              go_wp2
                                              repeat (go_quiet (fail); try go_wp2)
                                              go_ret
                                              exact ⟨by first | rfl | (simp [errW_none, errW_some] <;> rfl) | (simp [*, errW_none, errW_some] <;> rfl), by repeat (first | (with_reducible first | exact HB.out | apply below_alloc | apply pw_below_drewN | apply below_drew1 | refine below_set ?_ GE248.out) | exact HB.out)⟩
                                            · replace c80 := Bool.eq_false_iff.mpr c80
                                              subst c80
                                              have H1 : (abugidalaw06_ClusterBelongs.l1 kj59 t242 t243 t244 x20_1 (wrap64 (x8_3 + 1)) t244 (t244.length : Int) x20_1 ((rd_T30 t244 x20_1).f0) ((rd_T30 t244 x20_1).f1)) = some r := by rw [if_neg (show ¬ (false = true) by decide)] at H; exact H
                                              clear H
                                              have H := H1
                                              clear H1
                                              have H' := Aside0.mk H
                                              clear H
                                              go_wp2
                                              repeat (go_quiet (fail); try go_wp2)
                                              go_roundg kj59
                                              case measure => have := HK1.out; have := HJ11.out; have := HK3.out; have := HJ26.out; have := HJ36.out; have := HJ54.out; have := HJ59.out; omega
                                              case rel => exact ⟨(wrap64 (x8_3 + 1)), (by first | rfl | (simp; done) | (simp [*]; done)), H', ⟨by have := HK1.out; have := HJ11.out; have := HK3.out; have := HJ26.out; have := HJ36.out; have := HJ54.out; have := HJ59.out; omega⟩, ⟨by (with_reducible repeat (first | apply Kd.R_alloc | apply Kd.R_drewN | apply Kd.R_drew)); exact HO_5.out⟩, ⟨by (with_reducible repeat (first | apply Kd.R_alloc | apply Kd.R_drewN | apply Kd.R_drew)); exact HO_18.out⟩, ⟨by (with_reducible repeat (first | refine blk_drewN ?_ _ | refine blk_drew ?_ | refine blk_alloc ?_ _)); exact BK248.out⟩, ⟨by repeat (first | (with_reducible first | exact HB.out | apply below_alloc | apply pw_below_drewN | apply below_drew1 | refine below_set ?_ GE248.out) | exact HB.out)⟩⟩
                          · rw [if_neg c24] at H
                            exact absurd H (by simp)
                        · rw [if_neg c23] at H
                          exact absurd H (by simp)
                      · rw [if_neg c22] at H
                        have c22b0 : decide (x8_3 < ((rd_T30 t244 x20_1).f1)) = false := decide_eq_false c22
                        clear c22
                        have H' := Aside0.mk H
                        clear H
                        have hcz81_0 : wr.cell? ⟨gb248, 0, none⟩ = some (.int .i64 ((rd_T30 t244 x20_1).f0)) := (blk_cell BK248.out 0).trans rfl
                        have hcz81_1 : wr.cell? ⟨gb248, 1, none⟩ = some (.int .i64 ((rd_T30 t244 x20_1).f1)) := (blk_cell BK248.out 1).trans rfl
                        have hfz81_0 := blk_frozen BK248.out 0
                        have hfz81_1 := blk_frozen BK248.out 1
                        go_wp2
                        repeat (go_quiet (fail); try go_wp2)
                        go_roundg k3
                        case measure => have := HK1.out; have := HJ11.out; have := HK3.out; omega
                        case rel => exact ⟨(wrap64 (x20_1 + 1)), (by first | rfl | (simp; done) | (simp [*]; done)), H', ⟨by have := HK1.out; have := HJ11.out; have := HK3.out; omega⟩, ⟨by (with_reducible repeat (first | apply Kd.R_alloc | apply Kd.R_drewN | apply Kd.R_drew)); exact Kd.R_mono HO_5.out (fun _ hk => trivial)⟩, ⟨by (with_reducible repeat (first | apply Kd.R_alloc | apply Kd.R_drewN | apply Kd.R_drew)); exact Kd.R_mono HO_18.out (fun _ hk => trivial)⟩, ⟨by repeat (first | (with_reducible first | exact HB.out | apply below_alloc | apply pw_below_drewN | apply below_drew1 | refine below_set ?_ GE248.out) | exact HB.out)⟩⟩
          · rw [if_neg c11] at H
            exact absurd H (by simp)
        · rw [if_neg c10] at H
          exact absurd H (by simp)
      · rw [if_neg c9] at H
        have c9b0 : decide (x20_1 < (t244.length : Int)) = false := decide_eq_false c9
        clear c9
        obtain rfl := Option.some.inj H
        go_wp2
        repeat (go_quiet (fail); try go_wp2)
        go_ret
        exact ⟨by first | rfl | (simp [errW_none, errW_some] <;> rfl) | (simp [*, errW_none, errW_some] <;> rfl), by repeat (first | (with_reducible first | exact HB.out | apply below_alloc | apply pw_below_drewN | apply below_drew1) | exact HB.out)⟩

/-- THE ONE PURE STATEMENT of abugidalaw06_ClusterBelongs: yours. -/
def abugidalaw06_ClusterBelongs.Pure : Prop := ∀ (l0 : List Int), l0.length ≤ maxLen → l0.length * 8 ≤ 140737488351232 → (∀ x ∈ l0, (Lit.int .i64 x).wf = true) → ∃ k, abugidalaw06_ClusterBelongs.f k l0 = some true
theorem abugidalaw06_ClusterBelongs.walk (P : abugidalaw06_ClusterBelongs.Pure) (a0 : Option Addr) (len0 cap0 : Nat) (z0 : List Int) (w : World) (w0 : (a0 = none ∧ len0 = 0 ∧ cap0 = 0 ∧ z0 = []) ∨ ∃ x, a0 = some x ∧ len0 ≤ cap0 ∧ cap0 ≤ maxLen ∧ z0.length = cap0 ∧ (∀ i, i < z0.length → w.cell? (x.add i) = some (.int .i64 (z0.getD i 0))) ∧ ∀ n ∈ z0, (Lit.int .i64 n).wf = true) (y0 : len0 * 8 ≤ 140737488351232) :
    Calls Try.prog 6 #[.slice a0 len0 cap0] w fun e w' => e = .returned (.bool true) ∧ Below w.heap.size w w' := by
  obtain ⟨l0, rfl, hr0, hm0, hw0, hc0⟩ := ReadsInt.ofRowC w0
  obtain ⟨k, h⟩ := P l0 hm0 y0 hw0
  refine (abugidalaw06_ClusterBelongs.calls k _ _ l0 true w (Kd.C_of_reads (d := (0 : Int)) (h1 := fun _ => rfl) hr0) hc0 h).mono ?_
  rintro e w' ⟨rfl, hd⟩
  exact ⟨rfl, hd⟩

end Go.Proofs.Ytngdddgoplmlbaa.Q

-- Written by wip/tools/myprint.py, a program of this session that drives the kit's print.py; not a text of print.sh.
import Derived.Test.YtacnckneiklgpaaQx0
import Derived.Test.YtacnckneiklgpaaQx15
import Derived.Test.YtacnckneiklgpaaQx16
namespace Go.Proofs.Ytacnckneiklgpaa.Q
open Go.RowKit Go.Proofs.YtacnckneiklgpaaW.PrintWords Go.Proofs.YtacnckneiklgpaaW.PrintLast Go.Proofs.YtacnckneiklgpaaW.PrintMore
attribute [local go_sem] max2_int min2_int max_two min_two max_three min_three max_four min_four   -- for this text's walks alone
set_option linter.unusedVariables false
set_option linter.unusedSimpArgs false

/-! ### abugidaref07_Directions: function 33 -/
mutual
def abugidaref07_Directions.l0 : Nat → ByteArray → List Int → Int → List Int → Int → Int → Option (List Int)
  | 0, _, _, _, _, _, _ => none
  | k + 1, x0, x3, x4, x5, x6, x7 => if x7 < (x3.length : Int) then (if 0 ≤ x7 then (if (rd x3 x7) = 1 then (abugidaref07_Directions.j1 k x0 x3 x4 x5 x6 x7 true) else (abugidaref07_Directions.j1 k x0 x3 x4 x5 x6 x7 ((rd x3 x7) == 2))) else (none)) else (abugidaref07_Directions.l1 k x0 x3 x4 x5 0)
def abugidaref07_Directions.j1 : Nat → ByteArray → List Int → Int → List Int → Int → Int → Bool → Option (List Int)
  | 0, _, _, _, _, _, _, _ => none
  | k + 1, x0, x3, x4, x5, x6, x7, x39 => if x39 = true then (if 0 ≤ x7 then (if x7 < (x3.length : Int) then (if (rd x3 x7) = 0 then (abugidaref07_Directions.l0 k x0 x3 x4 x5 (rd x3 x7) (wrap64 (x7 + 1))) else (if x7 < (x5.length : Int) then (abugidaref07_Directions.l0 k x0 x3 x4 (x5.set (x7 : Int).toNat (rd x3 x7)) (rd x3 x7) (wrap64 (x7 + 1))) else (none))) else (none)) else (none)) else (if 0 ≤ x7 then (if x7 < (x3.length : Int) then (if (rd x3 x7) = 0 then (abugidaref07_Directions.l0 k x0 x3 x4 x5 x6 (wrap64 (x7 + 1))) else (if x7 < (x5.length : Int) then (abugidaref07_Directions.l0 k x0 x3 x4 (x5.set (x7 : Int).toNat x6) x6 (wrap64 (x7 + 1))) else (none))) else (none)) else (none))
def abugidaref07_Directions.l1 : Nat → ByteArray → List Int → Int → List Int → Int → Option (List Int)
  | 0, _, _, _, _, _ => none
  | k + 1, x0, x3, x4, x5, x8 => if x8 < (x3.length : Int) then (if 0 ≤ x8 then (if (rd x3 x8) = 0 then (abugidaref07_Directions.l2 k x0 x3 x4 x5 x8 x8) else (abugidaref07_Directions.l1 k x0 x3 x4 x5 (wrap64 (x8 + 1)))) else (none)) else (abugidaref07_Directions.l4 k x0 x4 x5 0)
def abugidaref07_Directions.j4 : Nat → ByteArray → List Int → Int → List Int → Int → Int → Option (List Int)
  | 0, _, _, _, _, _, _ => none
  | k + 1, x0, x3, x4, x5, x8, x9 => if x8 > 0 then (if 0 ≤ (wrap64 (x8 - 1)) then (if (wrap64 (x8 - 1)) < (x5.length : Int) then (abugidaref07_Directions.j5 k x0 x3 x4 x5 x8 x9 (rd x5 (wrap64 (x8 - 1)))) else (none)) else (none)) else (abugidaref07_Directions.j5 k x0 x3 x4 x5 x8 x9 x4)
def abugidaref07_Directions.j5 : Nat → ByteArray → List Int → Int → List Int → Int → Int → Int → Option (List Int)
  | 0, _, _, _, _, _, _, _ => none
  | k + 1, x0, x3, x4, x5, x8, x9, x10 => if x9 < (x3.length : Int) then (if 0 ≤ x9 then (if x9 < (x5.length : Int) then (abugidaref07_Directions.j6 k x0 x3 x4 x5 x8 x9 x10 (rd x5 x9)) else (none)) else (none)) else (abugidaref07_Directions.j6 k x0 x3 x4 x5 x8 x9 x10 x4)
def abugidaref07_Directions.j6 : Nat → ByteArray → List Int → Int → List Int → Int → Int → Int → Int → Option (List Int)
  | 0, _, _, _, _, _, _, _, _ => none
  | k + 1, x0, x3, x4, x5, x8, x9, x10, x11 => abugidaref07_Directions.l3 k x0 x3 x4 x5 x9 x10 x11 x8
def abugidaref07_Directions.l3 : Nat → ByteArray → List Int → Int → List Int → Int → Int → Int → Int → Option (List Int)
  | 0, _, _, _, _, _, _, _, _ => none
  | k + 1, x0, x3, x4, x5, x9, x10, x11, x12 => if x12 < x9 then (if 0 ≤ x12 then (if x12 < (x5.length : Int) then ((some (x5.set (x12 : Int).toNat x4 : List Int)).bind fun y277 => (if x10 = x11 then (abugidaref07_Directions.l3 k x0 x3 x4 (y277.set (x12 : Int).toNat x10) x9 x10 x11 (wrap64 (x12 + 1))) else (abugidaref07_Directions.l3 k x0 x3 x4 y277 x9 x10 x11 (wrap64 (x12 + 1))))) else (none)) else (none)) else (abugidaref07_Directions.l1 k x0 x3 x4 x5 (wrap64 ((wrap64 (x9 - 1)) + 1)))
def abugidaref07_Directions.l2 : Nat → ByteArray → List Int → Int → List Int → Int → Int → Option (List Int)
  | 0, _, _, _, _, _, _ => none
  | k + 1, x0, x3, x4, x5, x8, x9 => if x9 < (x3.length : Int) then (if 0 ≤ x9 then (if (rd x3 x9) = 0 then (abugidaref07_Directions.l2 k x0 x3 x4 x5 x8 (wrap64 (x9 + 1))) else (abugidaref07_Directions.j4 k x0 x3 x4 x5 x8 x9)) else (none)) else (abugidaref07_Directions.j4 k x0 x3 x4 x5 x8 x9)
def abugidaref07_Directions.l4 : Nat → ByteArray → Int → List Int → Int → Option (List Int)
  | 0, _, _, _, _ => none
  | k + 1, x0, x4, x5, x13 => if x13 < (x0.size : Int) then (if 0 ≤ x13 then ((abugidaref05_Class.f k (wrap64 (bt x0 x13))).bind fun t279 => (if t279 = 1 then (if x13 < (x5.length : Int) then (abugidaref07_Directions.l4 k x0 x4 (x5.set (x13 : Int).toNat x4) (wrap64 (x13 + 1))) else (none)) else (abugidaref07_Directions.l4 k x0 x4 x5 (wrap64 (x13 + 1))))) else (none)) else (some x5)
end
def abugidaref07_Directions.f (k : Nat) (a0 : ByteArray) : Option (List Int) := (abugidaref07_Kinds.f k a0).bind fun t259 => ((abugidaref07_Base.f k a0).bind fun t262 => (if 0 ≤ (t259.length : Int) then (if ((t259.length : Int) : Int).toNat ≤ 35184372088832 then (abugidaref07_Directions.l0 k a0 t259 t262 (List.replicate ((t259.length : Int) : Int).toNat 0) t262 0) else (none)) else (none)))
theorem abugidaref07_Directions.mono_l : ∀ k, (∀ y0 y1 y2 y3 y4 y5, LeO (abugidaref07_Directions.l0 k y0 y1 y2 y3 y4 y5) (abugidaref07_Directions.l0 (k + 1) y0 y1 y2 y3 y4 y5)) ∧ (∀ y0 y1 y2 y3 y4 y5 y6, LeO (abugidaref07_Directions.j1 k y0 y1 y2 y3 y4 y5 y6) (abugidaref07_Directions.j1 (k + 1) y0 y1 y2 y3 y4 y5 y6)) ∧ (∀ y0 y1 y2 y3 y4, LeO (abugidaref07_Directions.l1 k y0 y1 y2 y3 y4) (abugidaref07_Directions.l1 (k + 1) y0 y1 y2 y3 y4)) ∧ (∀ y0 y1 y2 y3 y4 y5, LeO (abugidaref07_Directions.j4 k y0 y1 y2 y3 y4 y5) (abugidaref07_Directions.j4 (k + 1) y0 y1 y2 y3 y4 y5)) ∧ (∀ y0 y1 y2 y3 y4 y5 y6, LeO (abugidaref07_Directions.j5 k y0 y1 y2 y3 y4 y5 y6) (abugidaref07_Directions.j5 (k + 1) y0 y1 y2 y3 y4 y5 y6)) ∧ (∀ y0 y1 y2 y3 y4 y5 y6 y7, LeO (abugidaref07_Directions.j6 k y0 y1 y2 y3 y4 y5 y6 y7) (abugidaref07_Directions.j6 (k + 1) y0 y1 y2 y3 y4 y5 y6 y7)) ∧ (∀ y0 y1 y2 y3 y4 y5 y6 y7, LeO (abugidaref07_Directions.l3 k y0 y1 y2 y3 y4 y5 y6 y7) (abugidaref07_Directions.l3 (k + 1) y0 y1 y2 y3 y4 y5 y6 y7)) ∧ (∀ y0 y1 y2 y3 y4 y5, LeO (abugidaref07_Directions.l2 k y0 y1 y2 y3 y4 y5) (abugidaref07_Directions.l2 (k + 1) y0 y1 y2 y3 y4 y5)) ∧ (∀ y0 y1 y2 y3, LeO (abugidaref07_Directions.l4 k y0 y1 y2 y3) (abugidaref07_Directions.l4 (k + 1) y0 y1 y2 y3))
  | 0 => ⟨fun _ _ _ _ _ _ r h => by simp [abugidaref07_Directions.l0] at h, fun _ _ _ _ _ _ _ r h => by simp [abugidaref07_Directions.j1] at h, fun _ _ _ _ _ r h => by simp [abugidaref07_Directions.l1] at h, fun _ _ _ _ _ _ r h => by simp [abugidaref07_Directions.j4] at h, fun _ _ _ _ _ _ _ r h => by simp [abugidaref07_Directions.j5] at h, fun _ _ _ _ _ _ _ _ r h => by simp [abugidaref07_Directions.j6] at h, fun _ _ _ _ _ _ _ _ r h => by simp [abugidaref07_Directions.l3] at h, fun _ _ _ _ _ _ r h => by simp [abugidaref07_Directions.l2] at h, fun _ _ _ _ r h => by simp [abugidaref07_Directions.l4] at h⟩
  | k + 1 => by
    obtain ⟨ih0, ih1, ih2, ih3, ih4, ih5, ih6, ih7, ih8⟩ := abugidaref07_Directions.mono_l k
    refine ⟨?_, ?_, ?_, ?_, ?_, ?_, ?_, ?_, ?_⟩
    · intro y0 y1 y2 y3 y4 y5
      unfold abugidaref07_Directions.l0
      repeat' first
      | (with_reducible exact ih0 _ _ _ _ _ _)
      | (with_reducible exact ih1 _ _ _ _ _ _ _)
      | (with_reducible exact ih2 _ _ _ _ _)
      | (with_reducible exact ih3 _ _ _ _ _ _)
      | (with_reducible exact ih4 _ _ _ _ _ _ _)
      | (with_reducible exact ih5 _ _ _ _ _ _ _ _)
      | (with_reducible exact ih6 _ _ _ _ _ _ _ _)
      | (with_reducible exact ih7 _ _ _ _ _ _)
      | (with_reducible exact ih8 _ _ _ _)
      | (with_reducible exact abugidaref05_Class.mono _ _)
      | (with_reducible exact abugidaref07_Base.mono _ _)
      | (with_reducible exact abugidaref07_Kinds.mono _ _)
      | (with_reducible exact LeO.refl _)
      | (with_reducible exact LeO.none _)
      | (with_reducible refine LeO.ite ?_ ?_)
      | (with_reducible refine LeO.bind ?_ (fun _ => ?_))
      | exact ih0 _ _ _ _ _ _
      | exact ih1 _ _ _ _ _ _ _
      | exact ih2 _ _ _ _ _
      | exact ih3 _ _ _ _ _ _
      | exact ih4 _ _ _ _ _ _ _
      | exact ih5 _ _ _ _ _ _ _ _
      | exact ih6 _ _ _ _ _ _ _ _
      | exact ih7 _ _ _ _ _ _
      | exact ih8 _ _ _ _
      | exact abugidaref05_Class.mono _ _
      | exact abugidaref07_Base.mono _ _
      | exact abugidaref07_Kinds.mono _ _
      | exact LeO.none _
      | refine LeO.ite ?_ ?_
      | refine LeO.bind ?_ (fun _ => ?_)
    · intro y0 y1 y2 y3 y4 y5 y6
      unfold abugidaref07_Directions.j1
      repeat' first
      | (with_reducible exact ih0 _ _ _ _ _ _)
      | (with_reducible exact ih1 _ _ _ _ _ _ _)
      | (with_reducible exact ih2 _ _ _ _ _)
      | (with_reducible exact ih3 _ _ _ _ _ _)
      | (with_reducible exact ih4 _ _ _ _ _ _ _)
      | (with_reducible exact ih5 _ _ _ _ _ _ _ _)
      | (with_reducible exact ih6 _ _ _ _ _ _ _ _)
      | (with_reducible exact ih7 _ _ _ _ _ _)
      | (with_reducible exact ih8 _ _ _ _)
      | (with_reducible exact abugidaref05_Class.mono _ _)
      | (with_reducible exact abugidaref07_Base.mono _ _)
      | (with_reducible exact abugidaref07_Kinds.mono _ _)
      | (with_reducible exact LeO.refl _)
      | (with_reducible exact LeO.none _)
      | (with_reducible refine LeO.ite ?_ ?_)
      | (with_reducible refine LeO.bind ?_ (fun _ => ?_))
      | exact ih0 _ _ _ _ _ _
      | exact ih1 _ _ _ _ _ _ _
      | exact ih2 _ _ _ _ _
      | exact ih3 _ _ _ _ _ _
      | exact ih4 _ _ _ _ _ _ _
      | exact ih5 _ _ _ _ _ _ _ _
      | exact ih6 _ _ _ _ _ _ _ _
      | exact ih7 _ _ _ _ _ _
      | exact ih8 _ _ _ _
      | exact abugidaref05_Class.mono _ _
      | exact abugidaref07_Base.mono _ _
      | exact abugidaref07_Kinds.mono _ _
      | exact LeO.none _
      | refine LeO.ite ?_ ?_
      | refine LeO.bind ?_ (fun _ => ?_)
    · intro y0 y1 y2 y3 y4
      unfold abugidaref07_Directions.l1
      repeat' first
      | (with_reducible exact ih0 _ _ _ _ _ _)
      | (with_reducible exact ih1 _ _ _ _ _ _ _)
      | (with_reducible exact ih2 _ _ _ _ _)
      | (with_reducible exact ih3 _ _ _ _ _ _)
      | (with_reducible exact ih4 _ _ _ _ _ _ _)
      | (with_reducible exact ih5 _ _ _ _ _ _ _ _)
      | (with_reducible exact ih6 _ _ _ _ _ _ _ _)
      | (with_reducible exact ih7 _ _ _ _ _ _)
      | (with_reducible exact ih8 _ _ _ _)
      | (with_reducible exact abugidaref05_Class.mono _ _)
      | (with_reducible exact abugidaref07_Base.mono _ _)
      | (with_reducible exact abugidaref07_Kinds.mono _ _)
      | (with_reducible exact LeO.refl _)
      | (with_reducible exact LeO.none _)
      | (with_reducible refine LeO.ite ?_ ?_)
      | (with_reducible refine LeO.bind ?_ (fun _ => ?_))
      | exact ih0 _ _ _ _ _ _
      | exact ih1 _ _ _ _ _ _ _
      | exact ih2 _ _ _ _ _
      | exact ih3 _ _ _ _ _ _
      | exact ih4 _ _ _ _ _ _ _
      | exact ih5 _ _ _ _ _ _ _ _
      | exact ih6 _ _ _ _ _ _ _ _
      | exact ih7 _ _ _ _ _ _
      | exact ih8 _ _ _ _
      | exact abugidaref05_Class.mono _ _
      | exact abugidaref07_Base.mono _ _
      | exact abugidaref07_Kinds.mono _ _
      | exact LeO.none _
      | refine LeO.ite ?_ ?_
      | refine LeO.bind ?_ (fun _ => ?_)
    · intro y0 y1 y2 y3 y4 y5
      unfold abugidaref07_Directions.j4
      repeat' first
      | (with_reducible exact ih0 _ _ _ _ _ _)
      | (with_reducible exact ih1 _ _ _ _ _ _ _)
      | (with_reducible exact ih2 _ _ _ _ _)
      | (with_reducible exact ih3 _ _ _ _ _ _)
      | (with_reducible exact ih4 _ _ _ _ _ _ _)
      | (with_reducible exact ih5 _ _ _ _ _ _ _ _)
      | (with_reducible exact ih6 _ _ _ _ _ _ _ _)
      | (with_reducible exact ih7 _ _ _ _ _ _)
      | (with_reducible exact ih8 _ _ _ _)
      | (with_reducible exact abugidaref05_Class.mono _ _)
      | (with_reducible exact abugidaref07_Base.mono _ _)
      | (with_reducible exact abugidaref07_Kinds.mono _ _)
      | (with_reducible exact LeO.refl _)
      | (with_reducible exact LeO.none _)
      | (with_reducible refine LeO.ite ?_ ?_)
      | (with_reducible refine LeO.bind ?_ (fun _ => ?_))
      | exact ih0 _ _ _ _ _ _
      | exact ih1 _ _ _ _ _ _ _
      | exact ih2 _ _ _ _ _
      | exact ih3 _ _ _ _ _ _
      | exact ih4 _ _ _ _ _ _ _
      | exact ih5 _ _ _ _ _ _ _ _
      | exact ih6 _ _ _ _ _ _ _ _
      | exact ih7 _ _ _ _ _ _
      | exact ih8 _ _ _ _
      | exact abugidaref05_Class.mono _ _
      | exact abugidaref07_Base.mono _ _
      | exact abugidaref07_Kinds.mono _ _
      | exact LeO.none _
      | refine LeO.ite ?_ ?_
      | refine LeO.bind ?_ (fun _ => ?_)
    · intro y0 y1 y2 y3 y4 y5 y6
      unfold abugidaref07_Directions.j5
      repeat' first
      | (with_reducible exact ih0 _ _ _ _ _ _)
      | (with_reducible exact ih1 _ _ _ _ _ _ _)
      | (with_reducible exact ih2 _ _ _ _ _)
      | (with_reducible exact ih3 _ _ _ _ _ _)
      | (with_reducible exact ih4 _ _ _ _ _ _ _)
      | (with_reducible exact ih5 _ _ _ _ _ _ _ _)
      | (with_reducible exact ih6 _ _ _ _ _ _ _ _)
      | (with_reducible exact ih7 _ _ _ _ _ _)
      | (with_reducible exact ih8 _ _ _ _)
      | (with_reducible exact abugidaref05_Class.mono _ _)
      | (with_reducible exact abugidaref07_Base.mono _ _)
      | (with_reducible exact abugidaref07_Kinds.mono _ _)
      | (with_reducible exact LeO.refl _)
      | (with_reducible exact LeO.none _)
      | (with_reducible refine LeO.ite ?_ ?_)
      | (with_reducible refine LeO.bind ?_ (fun _ => ?_))
      | exact ih0 _ _ _ _ _ _
      | exact ih1 _ _ _ _ _ _ _
      | exact ih2 _ _ _ _ _
      | exact ih3 _ _ _ _ _ _
      | exact ih4 _ _ _ _ _ _ _
      | exact ih5 _ _ _ _ _ _ _ _
      | exact ih6 _ _ _ _ _ _ _ _
      | exact ih7 _ _ _ _ _ _
      | exact ih8 _ _ _ _
      | exact abugidaref05_Class.mono _ _
      | exact abugidaref07_Base.mono _ _
      | exact abugidaref07_Kinds.mono _ _
      | exact LeO.none _
      | refine LeO.ite ?_ ?_
      | refine LeO.bind ?_ (fun _ => ?_)
    · intro y0 y1 y2 y3 y4 y5 y6 y7
      unfold abugidaref07_Directions.j6
      repeat' first
      | (with_reducible exact ih0 _ _ _ _ _ _)
      | (with_reducible exact ih1 _ _ _ _ _ _ _)
      | (with_reducible exact ih2 _ _ _ _ _)
      | (with_reducible exact ih3 _ _ _ _ _ _)
      | (with_reducible exact ih4 _ _ _ _ _ _ _)
      | (with_reducible exact ih5 _ _ _ _ _ _ _ _)
      | (with_reducible exact ih6 _ _ _ _ _ _ _ _)
      | (with_reducible exact ih7 _ _ _ _ _ _)
      | (with_reducible exact ih8 _ _ _ _)
      | (with_reducible exact abugidaref05_Class.mono _ _)
      | (with_reducible exact abugidaref07_Base.mono _ _)
      | (with_reducible exact abugidaref07_Kinds.mono _ _)
      | (with_reducible exact LeO.refl _)
      | (with_reducible exact LeO.none _)
      | (with_reducible refine LeO.ite ?_ ?_)
      | (with_reducible refine LeO.bind ?_ (fun _ => ?_))
      | exact ih0 _ _ _ _ _ _
      | exact ih1 _ _ _ _ _ _ _
      | exact ih2 _ _ _ _ _
      | exact ih3 _ _ _ _ _ _
      | exact ih4 _ _ _ _ _ _ _
      | exact ih5 _ _ _ _ _ _ _ _
      | exact ih6 _ _ _ _ _ _ _ _
      | exact ih7 _ _ _ _ _ _
      | exact ih8 _ _ _ _
      | exact abugidaref05_Class.mono _ _
      | exact abugidaref07_Base.mono _ _
      | exact abugidaref07_Kinds.mono _ _
      | exact LeO.none _
      | refine LeO.ite ?_ ?_
      | refine LeO.bind ?_ (fun _ => ?_)
    · intro y0 y1 y2 y3 y4 y5 y6 y7
      unfold abugidaref07_Directions.l3
      repeat' first
      | (with_reducible exact ih0 _ _ _ _ _ _)
      | (with_reducible exact ih1 _ _ _ _ _ _ _)
      | (with_reducible exact ih2 _ _ _ _ _)
      | (with_reducible exact ih3 _ _ _ _ _ _)
      | (with_reducible exact ih4 _ _ _ _ _ _ _)
      | (with_reducible exact ih5 _ _ _ _ _ _ _ _)
      | (with_reducible exact ih6 _ _ _ _ _ _ _ _)
      | (with_reducible exact ih7 _ _ _ _ _ _)
      | (with_reducible exact ih8 _ _ _ _)
      | (with_reducible exact abugidaref05_Class.mono _ _)
      | (with_reducible exact abugidaref07_Base.mono _ _)
      | (with_reducible exact abugidaref07_Kinds.mono _ _)
      | (with_reducible exact LeO.refl _)
      | (with_reducible exact LeO.none _)
      | (with_reducible refine LeO.ite ?_ ?_)
      | (with_reducible refine LeO.bind ?_ (fun _ => ?_))
      | exact ih0 _ _ _ _ _ _
      | exact ih1 _ _ _ _ _ _ _
      | exact ih2 _ _ _ _ _
      | exact ih3 _ _ _ _ _ _
      | exact ih4 _ _ _ _ _ _ _
      | exact ih5 _ _ _ _ _ _ _ _
      | exact ih6 _ _ _ _ _ _ _ _
      | exact ih7 _ _ _ _ _ _
      | exact ih8 _ _ _ _
      | exact abugidaref05_Class.mono _ _
      | exact abugidaref07_Base.mono _ _
      | exact abugidaref07_Kinds.mono _ _
      | exact LeO.none _
      | refine LeO.ite ?_ ?_
      | refine LeO.bind ?_ (fun _ => ?_)
    · intro y0 y1 y2 y3 y4 y5
      unfold abugidaref07_Directions.l2
      repeat' first
      | (with_reducible exact ih0 _ _ _ _ _ _)
      | (with_reducible exact ih1 _ _ _ _ _ _ _)
      | (with_reducible exact ih2 _ _ _ _ _)
      | (with_reducible exact ih3 _ _ _ _ _ _)
      | (with_reducible exact ih4 _ _ _ _ _ _ _)
      | (with_reducible exact ih5 _ _ _ _ _ _ _ _)
      | (with_reducible exact ih6 _ _ _ _ _ _ _ _)
      | (with_reducible exact ih7 _ _ _ _ _ _)
      | (with_reducible exact ih8 _ _ _ _)
      | (with_reducible exact abugidaref05_Class.mono _ _)
      | (with_reducible exact abugidaref07_Base.mono _ _)
      | (with_reducible exact abugidaref07_Kinds.mono _ _)
      | (with_reducible exact LeO.refl _)
      | (with_reducible exact LeO.none _)
      | (with_reducible refine LeO.ite ?_ ?_)
      | (with_reducible refine LeO.bind ?_ (fun _ => ?_))
      | exact ih0 _ _ _ _ _ _
      | exact ih1 _ _ _ _ _ _ _
      | exact ih2 _ _ _ _ _
      | exact ih3 _ _ _ _ _ _
      | exact ih4 _ _ _ _ _ _ _
      | exact ih5 _ _ _ _ _ _ _ _
      | exact ih6 _ _ _ _ _ _ _ _
      | exact ih7 _ _ _ _ _ _
      | exact ih8 _ _ _ _
      | exact abugidaref05_Class.mono _ _
      | exact abugidaref07_Base.mono _ _
      | exact abugidaref07_Kinds.mono _ _
      | exact LeO.none _
      | refine LeO.ite ?_ ?_
      | refine LeO.bind ?_ (fun _ => ?_)
    · intro y0 y1 y2 y3
      unfold abugidaref07_Directions.l4
      repeat' first
      | (with_reducible exact ih0 _ _ _ _ _ _)
      | (with_reducible exact ih1 _ _ _ _ _ _ _)
      | (with_reducible exact ih2 _ _ _ _ _)
      | (with_reducible exact ih3 _ _ _ _ _ _)
      | (with_reducible exact ih4 _ _ _ _ _ _ _)
      | (with_reducible exact ih5 _ _ _ _ _ _ _ _)
      | (with_reducible exact ih6 _ _ _ _ _ _ _ _)
      | (with_reducible exact ih7 _ _ _ _ _ _)
      | (with_reducible exact ih8 _ _ _ _)
      | (with_reducible exact abugidaref05_Class.mono _ _)
      | (with_reducible exact abugidaref07_Base.mono _ _)
      | (with_reducible exact abugidaref07_Kinds.mono _ _)
      | (with_reducible exact LeO.refl _)
      | (with_reducible exact LeO.none _)
      | (with_reducible refine LeO.ite ?_ ?_)
      | (with_reducible refine LeO.bind ?_ (fun _ => ?_))
      | exact ih0 _ _ _ _ _ _
      | exact ih1 _ _ _ _ _ _ _
      | exact ih2 _ _ _ _ _
      | exact ih3 _ _ _ _ _ _
      | exact ih4 _ _ _ _ _ _ _
      | exact ih5 _ _ _ _ _ _ _ _
      | exact ih6 _ _ _ _ _ _ _ _
      | exact ih7 _ _ _ _ _ _
      | exact ih8 _ _ _ _
      | exact abugidaref05_Class.mono _ _
      | exact abugidaref07_Base.mono _ _
      | exact abugidaref07_Kinds.mono _ _
      | exact LeO.none _
      | refine LeO.ite ?_ ?_
      | refine LeO.bind ?_ (fun _ => ?_)
theorem abugidaref07_Directions.mono : ∀ a0 k, LeO (abugidaref07_Directions.f k a0) (abugidaref07_Directions.f (k + 1) a0) := by
  intro a0 k
  obtain ⟨ih0, ih1, ih2, ih3, ih4, ih5, ih6, ih7, ih8⟩ := abugidaref07_Directions.mono_l k
  unfold abugidaref07_Directions.f
  repeat' first
      | (with_reducible exact ih0 _ _ _ _ _ _)
      | (with_reducible exact ih1 _ _ _ _ _ _ _)
      | (with_reducible exact ih2 _ _ _ _ _)
      | (with_reducible exact ih3 _ _ _ _ _ _)
      | (with_reducible exact ih4 _ _ _ _ _ _ _)
      | (with_reducible exact ih5 _ _ _ _ _ _ _ _)
      | (with_reducible exact ih6 _ _ _ _ _ _ _ _)
      | (with_reducible exact ih7 _ _ _ _ _ _)
      | (with_reducible exact ih8 _ _ _ _)
      | (with_reducible exact abugidaref05_Class.mono _ _)
      | (with_reducible exact abugidaref07_Base.mono _ _)
      | (with_reducible exact abugidaref07_Kinds.mono _ _)
      | (with_reducible exact LeO.refl _)
      | (with_reducible exact LeO.none _)
      | (with_reducible refine LeO.ite ?_ ?_)
      | (with_reducible refine LeO.bind ?_ (fun _ => ?_))
      | exact ih0 _ _ _ _ _ _
      | exact ih1 _ _ _ _ _ _ _
      | exact ih2 _ _ _ _ _
      | exact ih3 _ _ _ _ _ _
      | exact ih4 _ _ _ _ _ _ _
      | exact ih5 _ _ _ _ _ _ _ _
      | exact ih6 _ _ _ _ _ _ _ _
      | exact ih7 _ _ _ _ _ _
      | exact ih8 _ _ _ _
      | exact abugidaref05_Class.mono _ _
      | exact abugidaref07_Base.mono _ _
      | exact abugidaref07_Kinds.mono _ _
      | exact LeO.none _
      | refine LeO.ite ?_ ?_
      | refine LeO.bind ?_ (fun _ => ?_)
set_option maxHeartbeats 8000000 in
set_option maxRecDepth 100000 in
theorem abugidaref07_Directions.calls (k : Nat) (a0 : ByteArray) (r : List Int) (w : World) (h : abugidaref07_Directions.f k a0 = some r) :
    Calls Try.prog 33 #[.string a0] w fun e w' => ∃ v0_ : Value, e = .returned (v0_) ∧ Kd.R (Kd.int .i64) 3 w' w.heap.size (fun _ => True) v0_ r ∧ Below w.heap.size w w' := by
  have HB := Aside0.mk (Below.refl w.heap.size w)
  have H : ((abugidaref07_Kinds.f k a0).bind fun t259 => ((abugidaref07_Base.f k a0).bind fun t262 => (if 0 ≤ (t259.length : Int) then (if ((t259.length : Int) : Int).toNat ≤ 35184372088832 then (abugidaref07_Directions.l0 k a0 t259 t262 (List.replicate ((t259.length : Int) : Int).toNat 0) t262 0) else (none)) else (none)))) = some r := h
  clear h
  replace H := Option.bind_eq_some_iff.mp H
  obtain ⟨t259, A20, H⟩ := H
  replace H : ((abugidaref07_Base.f k a0).bind fun t262 => (if 0 ≤ (t259.length : Int) then (if ((t259.length : Int) : Int).toNat ≤ 35184372088832 then (abugidaref07_Directions.l0 k a0 t259 t262 (List.replicate ((t259.length : Int) : Int).toNat 0) t262 0) else (none)) else (none))) = some r := H
  have A2 := Aside0.mk A20
  clear A20
  replace H := Option.bind_eq_some_iff.mp H
  obtain ⟨t262, A30, H⟩ := H
  replace H : (if 0 ≤ (t259.length : Int) then (if ((t259.length : Int) : Int).toNat ≤ 35184372088832 then (abugidaref07_Directions.l0 k a0 t259 t262 (List.replicate ((t259.length : Int) : Int).toNat 0) t262 0) else (none)) else (none)) = some r := H
  have A3 := Aside0.mk A30
  clear A30
  by_cases c4 : 0 ≤ (t259.length : Int)
  · rw [if_pos c4] at H
    have c4b0 := eq_true c4
    have c4b1 : decide (0 ≤ (t259.length : Int)) = true := decide_eq_true c4
    clear c4
    by_cases c5 : ((t259.length : Int) : Int).toNat ≤ 35184372088832
    · rw [if_pos c5] at H
      have c5b0 := eq_true c5
      have c5b1 : decide (((t259.length : Int) : Int).toNat ≤ 35184372088832) = true := decide_eq_true c5
      clear c5
      obtain ⟨y263, hy263⟩ : ∃ y_ : List Int, y_ = (List.replicate ((t259.length : Int) : Int).toNat 0) := ⟨_, rfl⟩
      replace H : (abugidaref07_Directions.l0 k a0 t259 t262 y263 t262 0) = some r := by first | (rw [hy263]; with_reducible exact H) | (have H2_ := (Option.bind_some _ _).symm.trans H; rw [hy263]; with_reducible exact H2_) | (have H2_ := (Option.bind_some _ _).symm.trans H; with_reducible exact H2_) | with_reducible exact H | (rw [hy263]; exact H) | exact H
      have Ny263 := Aside0.mk hy263
      clear hy263
      have H' := Aside0.mk H
      clear H
      go_enter Try.func33, Try.ntmps33
      go_wp2_with (first | ((with_reducible refine gate_callee (f := 32) rfl ?_); refine goesL_ (some 15) rfl rfl Try.func32 (by kernel_rfl) rfl #[.string a0] rfl (by (try simp only [List.map_toArray, List.map_cons, List.map_nil]); first | done | rfl | (simp only [List.length_drop, List.length_take]; rfl)) ?_; (with_reducible refine (abugidaref07_Kinds.calls k a0 t259 _ A2.out).mono ?_); rintro e w6 ⟨v260, rfl, ho0, hb⟩; refine ⟨_, rfl, ?_⟩; have n0_ := Aside0.mk (Kd.R_lower ho0 (below_size (by repeat (first | (with_reducible first | exact HB.out | apply below_alloc | apply pw_below_drewN | apply below_drew1) | exact HB.out)))); have n1_ := Aside0.mk (below_step (by repeat (first | (with_reducible first | exact HB.out | apply below_alloc | apply pw_below_drewN | apply below_drew1) | exact HB.out)) hb); clear HB; have HO261 := n0_; have HB := n1_; clear n0_ n1_; (try clear hb); (try clear hb2); (try clear hk); (try clear hi); (try clear ho0)) | ((with_reducible refine gate_callee (f := 29) rfl ?_); refine goesL_ (some 17) rfl rfl Try.func29 (by kernel_rfl) rfl #[.string a0] rfl (by (try simp only [List.map_toArray, List.map_cons, List.map_nil]); first | done | rfl | (simp only [List.length_drop, List.length_take]; rfl)) ?_; (with_reducible refine (abugidaref07_Base.calls k a0 t262 _ A3.out).mono ?_); rintro e w7 ⟨rfl, hb⟩; refine ⟨_, rfl, ?_⟩; have n0_ := Aside0.mk (Kd.R_below (by (with_reducible repeat (first | apply Kd.R_alloc | apply Kd.R_drewN | apply Kd.R_drew)); exact HO261.out) hb); have n1_ := Aside0.mk (below_step (by repeat (first | (with_reducible first | exact HB.out | apply below_alloc | apply pw_below_drewN | apply below_drew1) | exact HB.out)) hb); clear HO261; clear HB; have HO261 := n0_; have HB := n1_; clear n0_ n1_; (try clear hb); (try clear hb2); (try clear hk); (try clear hi); obtain ⟨Ao8, co8, eo8⟩ := Kd.R_slice HO261.out; subst eo8) | ((with_reducible refine gate_dst (N := 20) rfl ?_); refine Kd.R_make (Kd.int .i64) _ 3 rfl (N := 20) rfl 26 _ _ rfl (t259.length : Int) rfl rfl Try.underlying26 (.int .i64 0) 8 info3 rfl (by decide) (by omega) 0 (ok := fun _ => True) (okp := fun _ => True) rfl (fun _ hk => hk) trivial (of_decide_eq_true (by first | (with_reducible assumption) | assumption)) (Nat.le_trans (Nat.mul_le_mul_right _ (of_decide_eq_true (by first | (with_reducible assumption) | assumption) : (t259.length : Int).toNat ≤ 35184372088832)) (by omega)) (Below.refl _ _) (Nat.le_refl _) ?_; intro v264 w9 ho10 hb hg_ hnew_; clear hg_ hnew_; (first | rw [← Ny263.out] at ho10 | (simp only [Int.reduceToNat] at ho10; rw [← Ny263.out] at ho10)); have n0_ := Aside0.mk (Kd.R_elder' (by (with_reducible repeat (first | apply Kd.R_alloc | apply Kd.R_drewN | apply Kd.R_drew)); exact HO261.out) (Kd.R_base ho10) hb); have n1_ := Aside0.mk (Kd.R_lower (Kd.R_new' ho10 (Kd.R_lt (by (with_reducible repeat (first | apply Kd.R_alloc | apply Kd.R_drewN | apply Kd.R_drew)); exact HO261.out))) (below_size (by repeat (first | (with_reducible first | exact HB.out | apply below_alloc | apply pw_below_drewN | apply below_drew1) | exact HB.out)))); have n2_ := Aside0.mk (below_step (by repeat (first | (with_reducible first | exact HB.out | apply below_alloc | apply pw_below_drewN | apply below_drew1) | exact HB.out)) hb); clear HO261; clear HB; have HO261 := n0_; have HO265 := n1_; have HB := n2_; clear n0_ n1_ n2_; clear hb ho10))
      go_loopg [6, 7] k (fun kq v6 v7 w' => ∃ (x5_1 : List Int) (x6_1 : Int) (x7_1 : Int), v6 = .int .i64 x6_1 ∧ v7 = .int .i64 x7_1 ∧ Aside0 (abugidaref07_Directions.l0 kq a0 t259 t262 x5_1 x6_1 x7_1 = some r) ∧ Aside0 (kq ≤ k) ∧ Aside0 (Kd.R (Kd.int .i64) 3 w' w.heap.size (fun k_ => some k_ ≠ (v264 : Value).ownBlock) (.slice Ao8 t259.length co8) t259) ∧ Aside0 (Kd.R (Kd.int .i64) 3 w' w.heap.size (fun k_ => some k_ ≠ ((.slice Ao8 t259.length co8) : Value).ownBlock) v264 x5_1) ∧ Aside0 (Below w.heap.size w w'))
      case atStart => exact ⟨(y263), (t262), (0), (by first | rfl | (simp; done) | (simp [*]; done)), (by first | rfl | (simp; done) | (simp [*]; done)), H', ⟨Nat.le_refl _⟩, ⟨by (with_reducible repeat (first | apply Kd.R_alloc | apply Kd.R_drewN | apply Kd.R_drew)); exact Kd.R_mono HO261.out (fun _ hk => hk.2)⟩, ⟨by (with_reducible repeat (first | apply Kd.R_alloc | apply Kd.R_drewN | apply Kd.R_drew)); exact Kd.R_mono HO265.out (fun _ hk => hk.2)⟩, ⟨by repeat (first | (with_reducible first | exact HB.out | apply below_alloc | apply pw_below_drewN | apply below_drew1) | exact HB.out)⟩⟩
      case round =>
        clear H'
        try clear c2
        try clear p2
        try clear c3
        try clear c4
        try clear c4b0
        try clear c4b1
        try clear c5
        try clear c5b0
        try clear c5b1
        obtain ⟨x5_1, x6_1, x7_1, rfl, rfl, HA, HK1, HO_3, HO_5, HB⟩ := hrel
        cases gk with
        | zero => exact absurd HA.out (by simp [abugidaref07_Directions.l0])
        | succ k1 =>
          have H := HA.out
          clear HA
          simp only [abugidaref07_Directions.l0] at H
          by_cases c11 : x7_1 < (t259.length : Int)
          · rw [if_pos c11] at H
            have c11b0 : decide (x7_1 < (t259.length : Int)) = true := decide_eq_true c11
            clear c11
            have HC12 := Aside0.mk H
            clear H
            go_upto_region 8 with (fail)
            go_cut [39] (fun v39 wc => ∃ (kq : Nat) (x39_11 : Bool), v39 = .bool x39_11 ∧ Aside0 (abugidaref07_Directions.j1 kq a0 t259 t262 x5_1 x6_1 x7_1 x39_11 = some r) ∧ Aside0 (kq ≤ k1) ∧ Aside0 (Kd.R (Kd.int .i64) 3 wc w.heap.size (fun k_ => some k_ ≠ (v264 : Value).ownBlock) (.slice Ao8 t259.length co8) t259) ∧ Aside0 (Kd.R (Kd.int .i64) 3 wc w.heap.size (fun k_ => some k_ ≠ ((.slice Ao8 t259.length co8) : Value).ownBlock) v264 x5_1) ∧ Aside0 (Below w.heap.size w wc))
            case first =>
              have H := HC12.out
              clear HC12
              by_cases c13 : 0 ≤ x7_1
              · rw [if_pos c13] at H
                have c13b0 : decide (0 ≤ x7_1) = true := decide_eq_true c13
                clear c13
                (first | rw [c13b0] | (simp only [i64_w, i32_w]; rw [c13b0]) | skip)
                by_cases c14 : (rd t259 x7_1) = 1
                · rw [if_pos c14] at H
                  have c14b0 : ((rd t259 x7_1) == 1) = true := beq_iff_eq.mpr c14
                  have c14b1 : ((rd t259 x7_1) != 1) = false := bne_eq_false_iff_eq.mpr c14
                  clear c14
                  have H' := Aside0.mk H
                  clear H
                  have p266 : 0 ≤ (x7_1 : Int) := of_decide_eq_true (by first | (with_reducible assumption) | assumption)
                  have q266 : x7_1 < (t259.length : Int) := of_decide_eq_true (by first | (with_reducible assumption) | assumption)
                  obtain ⟨ad266, e266, hx266_0⟩ := Kd.at_int (Kd.R_reads' HO_3.out).2.2 x7_1 p266 q266
                  cases e266
                  replace p266 := eq_true p266
                  replace q266 := eq_true q266
                  go_wp2
                  go_meet
                  case rel => exact ⟨_, (true), (by first | rfl | (simp; done) | (simp [*]; done)), H', ⟨by have := HK1.out; first | omega | exact Nat.le_refl _⟩, ⟨by (with_reducible repeat (first | apply Kd.R_alloc | apply Kd.R_drewN | apply Kd.R_drew)); exact HO_3.out⟩, ⟨by (with_reducible repeat (first | apply Kd.R_alloc | apply Kd.R_drewN | apply Kd.R_drew)); exact HO_5.out⟩, ⟨by repeat (first | (with_reducible first | exact HB.out | apply below_alloc | apply pw_below_drewN | apply below_drew1) | exact HB.out)⟩⟩
                · rw [if_neg c14] at H
                  have c14b0 : ((rd t259 x7_1) == 1) = false := beq_eq_false_iff_ne.mpr c14
                  have c14b1 : ((rd t259 x7_1) != 1) = true := bne_iff_ne.mpr c14
                  have H' := Aside0.mk H
                  clear H
                  have p266 : 0 ≤ (x7_1 : Int) := of_decide_eq_true (by first | (with_reducible assumption) | assumption)
                  have q266 : x7_1 < (t259.length : Int) := of_decide_eq_true (by first | (with_reducible assumption) | assumption)
                  obtain ⟨ad266, e266, hx266_0⟩ := Kd.at_int (Kd.R_reads' HO_3.out).2.2 x7_1 p266 q266
                  cases e266
                  replace p266 := eq_true p266
                  replace q266 := eq_true q266
                  have p267 : 0 ≤ (x7_1 : Int) := of_decide_eq_true (by first | (with_reducible assumption) | assumption)
                  have q267 : x7_1 < (t259.length : Int) := of_decide_eq_true (by first | (with_reducible assumption) | assumption)
                  obtain ⟨ad267, e267, hx267_0⟩ := Kd.at_int (Kd.R_reads' HO_3.out).2.2 x7_1 p267 q267
                  obtain rfl : ad266 = ad267 := (by injection e267)
                  replace p267 := eq_true p267
                  replace q267 := eq_true q267
                  go_wp2
                  go_meet
                  case rel => exact ⟨_, (((rd t259 x7_1) == 2)), (by first | rfl | (simp; done) | (simp [*]; done)), H', ⟨by have := HK1.out; first | omega | exact Nat.le_refl _⟩, ⟨by (with_reducible repeat (first | apply Kd.R_alloc | apply Kd.R_drewN | apply Kd.R_drew)); exact HO_3.out⟩, ⟨by (with_reducible repeat (first | apply Kd.R_alloc | apply Kd.R_drewN | apply Kd.R_drew)); exact HO_5.out⟩, ⟨by repeat (first | (with_reducible first | exact HB.out | apply below_alloc | apply pw_below_drewN | apply below_drew1) | exact HB.out)⟩⟩
              · rw [if_neg c13] at H
                exact absurd H (by simp)
            case rest =>
              clear HC12
              try clear c1
              try clear c2
              try clear p2
              try clear q2
              try clear hx2
              try clear c3
              try clear c4
              try clear c4b0
              try clear c4b1
              try clear c5
              try clear c5b0
              try clear c5b1
              try clear c11
              try clear c11b0
              try clear c13
              try clear c13b0
              try clear c14
              try clear c14b0
              try clear c14b1
              try clear hx266_0
              try clear hx267_0
              try clear p2
              try clear p266
              try clear p267
              try clear q266
              try clear q267
              obtain ⟨kq, x39_11, rfl, HA, HJ11, HO_3, HO_5, HB⟩ := hcut
              cases kq with
              | zero => exact absurd HA.out (by simp [abugidaref07_Directions.j1])
              | succ kj11 =>
                have H := HA.out
                clear HA
                simp only [abugidaref07_Directions.j1] at H
                by_cases c15 : x39_11 = true
                · subst c15
                  have H1 : (if 0 ≤ x7_1 then (if x7_1 < (t259.length : Int) then (if (rd t259 x7_1) = 0 then (abugidaref07_Directions.l0 kj11 a0 t259 t262 x5_1 (rd t259 x7_1) (wrap64 (x7_1 + 1))) else (if x7_1 < (x5_1.length : Int) then (abugidaref07_Directions.l0 kj11 a0 t259 t262 (x5_1.set (x7_1 : Int).toNat (rd t259 x7_1)) (rd t259 x7_1) (wrap64 (x7_1 + 1))) else (none))) else (none)) else (none)) = some r := by rw [if_pos rfl] at H; exact H
                  clear H
                  have H := H1
                  clear H1
                  by_cases c16 : 0 ≤ x7_1
                  · rw [if_pos c16] at H
                    have c16b0 : decide (0 ≤ x7_1) = true := decide_eq_true c16
                    clear c16
                    by_cases c17 : x7_1 < (t259.length : Int)
                    · rw [if_pos c17] at H
                      have c17b0 : decide (x7_1 < (t259.length : Int)) = true := decide_eq_true c17
                      clear c17
                      by_cases c18 : (rd t259 x7_1) = 0
                      · rw [if_pos c18] at H
                        have c18b0 : ((rd t259 x7_1) == 0) = true := beq_iff_eq.mpr c18
                        have c18b1 : ((rd t259 x7_1) != 0) = false := bne_eq_false_iff_eq.mpr c18
                        clear c18
                        have H' := Aside0.mk H
                        clear H
                        have p268 : 0 ≤ (x7_1 : Int) := of_decide_eq_true (by first | (with_reducible assumption) | assumption)
                        have q268 : x7_1 < (t259.length : Int) := of_decide_eq_true (by first | (with_reducible assumption) | assumption)
                        obtain ⟨ad268, e268, hx268_0⟩ := Kd.at_int (Kd.R_reads' HO_3.out).2.2 x7_1 p268 q268
                        cases e268
                        replace p268 := eq_true p268
                        replace q268 := eq_true q268
                        have p269 : 0 ≤ (x7_1 : Int) := of_decide_eq_true (by first | (with_reducible assumption) | assumption)
                        have q269 : x7_1 < (t259.length : Int) := of_decide_eq_true (by first | (with_reducible assumption) | assumption)
                        obtain ⟨ad269, e269, hx269_0⟩ := Kd.at_int (Kd.R_reads' HO_3.out).2.2 x7_1 p269 q269
                        obtain rfl : ad268 = ad269 := (by injection e269)
                        replace p269 := eq_true p269
                        replace q269 := eq_true q269
                        go_wp2
                        go_roundg kj11
                        case measure => have := HK1.out; have := HJ11.out; omega
                        case rel => exact ⟨(x5_1), (rd t259 x7_1), (wrap64 (x7_1 + 1)), (by first | rfl | (simp; done) | (simp [*]; done)), (by first | rfl | (simp; done) | (simp [*]; done)), H', ⟨by have := HK1.out; have := HJ11.out; omega⟩, ⟨by (with_reducible repeat (first | apply Kd.R_alloc | apply Kd.R_drewN | apply Kd.R_drew)); exact HO_3.out⟩, ⟨by (with_reducible repeat (first | apply Kd.R_alloc | apply Kd.R_drewN | apply Kd.R_drew)); exact HO_5.out⟩, ⟨by repeat (first | (with_reducible first | exact HB.out | apply below_alloc | apply pw_below_drewN | apply below_drew1) | exact HB.out)⟩⟩
                      · rw [if_neg c18] at H
                        have c18b0 : ((rd t259 x7_1) == 0) = false := beq_eq_false_iff_ne.mpr c18
                        have c18b1 : ((rd t259 x7_1) != 0) = true := bne_iff_ne.mpr c18
                        by_cases c19 : x7_1 < (x5_1.length : Int)
                        · rw [if_pos c19] at H
                          have c19b0 : decide (x7_1 < (x5_1.length : Int)) = true := decide_eq_true c19
                          clear c19
                          obtain ⟨y270, hy270⟩ : ∃ y_ : List Int, y_ = (x5_1.set (x7_1 : Int).toNat (rd t259 x7_1)) := ⟨_, rfl⟩
                          replace H : (abugidaref07_Directions.l0 kj11 a0 t259 t262 y270 (rd t259 x7_1) (wrap64 (x7_1 + 1))) = some r := by first | (rw [hy270]; with_reducible exact H) | (have H2_ := (Option.bind_some _ _).symm.trans H; rw [hy270]; with_reducible exact H2_) | (have H2_ := (Option.bind_some _ _).symm.trans H; with_reducible exact H2_) | with_reducible exact H | (rw [hy270]; exact H) | exact H
                          have Ny270 := Aside0.mk hy270
                          clear hy270
                          have H' := Aside0.mk H
                          clear H
                          have p268 : 0 ≤ (x7_1 : Int) := of_decide_eq_true (by first | (with_reducible assumption) | assumption)
                          have q268 : x7_1 < (t259.length : Int) := of_decide_eq_true (by first | (with_reducible assumption) | assumption)
                          obtain ⟨ad268, e268, hx268_0⟩ := Kd.at_int (Kd.R_reads' HO_3.out).2.2 x7_1 p268 q268
                          cases e268
                          replace p268 := eq_true p268
                          replace q268 := eq_true q268
                          have p269 : 0 ≤ (x7_1 : Int) := of_decide_eq_true (by first | (with_reducible assumption) | assumption)
                          have q269 : x7_1 < (t259.length : Int) := of_decide_eq_true (by first | (with_reducible assumption) | assumption)
                          obtain ⟨ad269, e269, hx269_0⟩ := Kd.at_int (Kd.R_reads' HO_3.out).2.2 x7_1 p269 q269
                          obtain rfl : ad268 = ad269 := (by injection e269)
                          replace p269 := eq_true p269
                          replace q269 := eq_true q269
                          have p20 : 0 ≤ (x7_1 : Int) := of_decide_eq_true (by first | (with_reducible assumption) | assumption)
                          have q20 : (x7_1 : Int) < ((x5_1.length : Int) : Int) := of_decide_eq_true (by first | (with_reducible assumption) | assumption)
                          obtain ⟨go20, co20, eo20, gb20, gl20, cl20, HG20⟩ := Kd.R_form HO_5.out (by omega)
                          (first | cases eo20 | (injection eo20 with ea_ en_ ec_; (first | subst ea_ | (injection ea_ with ea_; subst ea_)); subst ec_; clear en_))
                          have GB20 := Aside0.mk gb20
                          have GG20 := Aside0.mk HG20
                          clear gb20 gl20 HG20
                          obtain ⟨hx20_0, hf20_0⟩ := Kd.R_celln 0 HO_5.out (x7_1 : Int) p20 q20
                          replace p20 := eq_true p20
                          replace q20 := eq_true q20
                          have HP21 := Kd.R_putg HO_5.out (x7_1 : Int) (rd t259 x7_1)
                          go_wp2_with (first | ((with_reducible refine gate_store (t := 3) (p := 52) rfl ?_); refine store_event (t := 3) (p := 52) (v := ?vo_w22) (w1 := (wc.setCell ⟨go20, (x7_1 : Int).toNat, none⟩ (.int .i64 (rd t259 x7_1)))) ?hg ?ho ?hn ?hr ?_; (case ho => rfl); (case hg => rfl); (case hn => rfl); (case hr => first | (go_simp; done) | (go_simp; rfl)); intro w22 hw; have hg : wc.grownBy w22 (some go20) := (by rw [hw]; exact HP21.2); have hp_ : Kd.R (Kd.int .i64) 3 w22 w.heap.size (fun k_ => some k_ ≠ (.slice (some ad268) t259.length co8 : Value).ownBlock) (.slice (some ⟨go20, 0, none⟩) x5_1.length co20) y270 := (by rw [hw, Ny270.out]; exact HP21.1); clear HP21; have n0_ := Aside0.mk (Kd.R_after (v := (.slice (some ⟨go20, 0, none⟩) x5_1.length co20)) (v1 := (.slice (some ⟨go20, 0, none⟩) x5_1.length co20)) (ok := (fun _ => True)) (by (with_reducible repeat (first | apply Kd.R_alloc | apply Kd.R_drewN | apply Kd.R_drew)); exact Kd.R_mono HO_3.out (fun _ hk => ⟨trivial, hk⟩)) hg (.inl rfl)); have n1_ := Aside0.mk (hp_); have n2_ := Aside0.mk ((by rw [hw]; exact below_set (HB.out) GB20.out : Below w.heap.size w w22)); clear HO_3; clear HO_5; clear HB; have HO_3 := n0_; have HO_5 := n1_; have HB := n2_; clear n0_ n1_ n2_; clear hg hw hp_))
                          go_roundg kj11
                          case measure => have := HK1.out; have := HJ11.out; omega
                          case rel => exact ⟨(y270), (rd t259 x7_1), (wrap64 (x7_1 + 1)), (by first | rfl | (simp; done) | (simp [*]; done)), (by first | rfl | (simp; done) | (simp [*]; done)), H', ⟨by have := HK1.out; have := HJ11.out; omega⟩, ⟨by (with_reducible repeat (first | apply Kd.R_alloc | apply Kd.R_drewN | apply Kd.R_drew)); exact Kd.R_mono HO_3.out (fun _ hk => hk.2)⟩, ⟨by (with_reducible repeat (first | apply Kd.R_alloc | apply Kd.R_drewN | apply Kd.R_drew)); exact HO_5.out⟩, ⟨by repeat (first | (with_reducible first | exact HB.out | apply below_alloc | apply pw_below_drewN | apply below_drew1) | exact HB.out)⟩⟩
                        · rw [if_neg c19] at H
                          exact absurd H (by simp)
                    · rw [if_neg c17] at H
                      exact absurd H (by simp)
                  · rw [if_neg c16] at H
                    exact absurd H (by simp)
                · replace c15 := Bool.eq_false_iff.mpr c15
                  subst c15
                  have H1 : (if 0 ≤ x7_1 then (if x7_1 < (t259.length : Int) then (if (rd t259 x7_1) = 0 then (abugidaref07_Directions.l0 kj11 a0 t259 t262 x5_1 x6_1 (wrap64 (x7_1 + 1))) else (if x7_1 < (x5_1.length : Int) then (abugidaref07_Directions.l0 kj11 a0 t259 t262 (x5_1.set (x7_1 : Int).toNat x6_1) x6_1 (wrap64 (x7_1 + 1))) else (none))) else (none)) else (none)) = some r := by rw [if_neg (show ¬ (false = true) by decide)] at H; exact H
                  clear H
                  have H := H1
                  clear H1
                  by_cases c23 : 0 ≤ x7_1
                  · rw [if_pos c23] at H
                    have c23b0 : decide (0 ≤ x7_1) = true := decide_eq_true c23
                    clear c23
                    by_cases c24 : x7_1 < (t259.length : Int)
                    · rw [if_pos c24] at H
                      have c24b0 : decide (x7_1 < (t259.length : Int)) = true := decide_eq_true c24
                      clear c24
                      by_cases c25 : (rd t259 x7_1) = 0
                      · rw [if_pos c25] at H
                        have c25b0 : ((rd t259 x7_1) == 0) = true := beq_iff_eq.mpr c25
                        have c25b1 : ((rd t259 x7_1) != 0) = false := bne_eq_false_iff_eq.mpr c25
                        clear c25
                        have H' := Aside0.mk H
                        clear H
                        have p271 : 0 ≤ (x7_1 : Int) := of_decide_eq_true (by first | (with_reducible assumption) | assumption)
                        have q271 : x7_1 < (t259.length : Int) := of_decide_eq_true (by first | (with_reducible assumption) | assumption)
                        obtain ⟨ad271, e271, hx271_0⟩ := Kd.at_int (Kd.R_reads' HO_3.out).2.2 x7_1 p271 q271
                        cases e271
                        replace p271 := eq_true p271
                        replace q271 := eq_true q271
                        go_wp2
                        go_roundg kj11
                        case measure => have := HK1.out; have := HJ11.out; omega
                        case rel => exact ⟨(x5_1), (x6_1), (wrap64 (x7_1 + 1)), (by first | rfl | (simp; done) | (simp [*]; done)), (by first | rfl | (simp; done) | (simp [*]; done)), H', ⟨by have := HK1.out; have := HJ11.out; omega⟩, ⟨by (with_reducible repeat (first | apply Kd.R_alloc | apply Kd.R_drewN | apply Kd.R_drew)); exact HO_3.out⟩, ⟨by (with_reducible repeat (first | apply Kd.R_alloc | apply Kd.R_drewN | apply Kd.R_drew)); exact HO_5.out⟩, ⟨by repeat (first | (with_reducible first | exact HB.out | apply below_alloc | apply pw_below_drewN | apply below_drew1) | exact HB.out)⟩⟩
                      · rw [if_neg c25] at H
                        have c25b0 : ((rd t259 x7_1) == 0) = false := beq_eq_false_iff_ne.mpr c25
                        have c25b1 : ((rd t259 x7_1) != 0) = true := bne_iff_ne.mpr c25
                        by_cases c26 : x7_1 < (x5_1.length : Int)
                        · rw [if_pos c26] at H
                          have c26b0 : decide (x7_1 < (x5_1.length : Int)) = true := decide_eq_true c26
                          clear c26
                          obtain ⟨y272, hy272⟩ : ∃ y_ : List Int, y_ = (x5_1.set (x7_1 : Int).toNat x6_1) := ⟨_, rfl⟩
                          replace H : (abugidaref07_Directions.l0 kj11 a0 t259 t262 y272 x6_1 (wrap64 (x7_1 + 1))) = some r := by first | (rw [hy272]; with_reducible exact H) | (have H2_ := (Option.bind_some _ _).symm.trans H; rw [hy272]; with_reducible exact H2_) | (have H2_ := (Option.bind_some _ _).symm.trans H; with_reducible exact H2_) | with_reducible exact H | (rw [hy272]; exact H) | exact H
                          have Ny272 := Aside0.mk hy272
                          clear hy272
                          have H' := Aside0.mk H
                          clear H
                          have p271 : 0 ≤ (x7_1 : Int) := of_decide_eq_true (by first | (with_reducible assumption) | assumption)
                          have q271 : x7_1 < (t259.length : Int) := of_decide_eq_true (by first | (with_reducible assumption) | assumption)
                          obtain ⟨ad271, e271, hx271_0⟩ := Kd.at_int (Kd.R_reads' HO_3.out).2.2 x7_1 p271 q271
                          cases e271
                          replace p271 := eq_true p271
                          replace q271 := eq_true q271
                          have p27 : 0 ≤ (x7_1 : Int) := of_decide_eq_true (by first | (with_reducible assumption) | assumption)
                          have q27 : (x7_1 : Int) < ((x5_1.length : Int) : Int) := of_decide_eq_true (by first | (with_reducible assumption) | assumption)
                          obtain ⟨go27, co27, eo27, gb27, gl27, cl27, HG27⟩ := Kd.R_form HO_5.out (by omega)
                          (first | cases eo27 | (injection eo27 with ea_ en_ ec_; (first | subst ea_ | (injection ea_ with ea_; subst ea_)); subst ec_; clear en_))
                          have GB27 := Aside0.mk gb27
                          have GG27 := Aside0.mk HG27
                          clear gb27 gl27 HG27
                          obtain ⟨hx27_0, hf27_0⟩ := Kd.R_celln 0 HO_5.out (x7_1 : Int) p27 q27
                          replace p27 := eq_true p27
                          replace q27 := eq_true q27
                          have HP28 := Kd.R_putg HO_5.out (x7_1 : Int) x6_1
                          go_wp2_with (first | ((with_reducible refine gate_store (t := 3) (p := 52) rfl ?_); refine store_event (t := 3) (p := 52) (v := ?vo_w29) (w1 := (wc.setCell ⟨go27, (x7_1 : Int).toNat, none⟩ (.int .i64 x6_1))) ?hg ?ho ?hn ?hr ?_; (case ho => rfl); (case hg => rfl); (case hn => rfl); (case hr => first | (go_simp; done) | (go_simp; rfl)); intro w29 hw; have hg : wc.grownBy w29 (some go27) := (by rw [hw]; exact HP28.2); have hp_ : Kd.R (Kd.int .i64) 3 w29 w.heap.size (fun k_ => some k_ ≠ (.slice (some ad271) t259.length co8 : Value).ownBlock) (.slice (some ⟨go27, 0, none⟩) x5_1.length co27) y272 := (by rw [hw, Ny272.out]; exact HP28.1); clear HP28; have n0_ := Aside0.mk (Kd.R_after (v := (.slice (some ⟨go27, 0, none⟩) x5_1.length co27)) (v1 := (.slice (some ⟨go27, 0, none⟩) x5_1.length co27)) (ok := (fun _ => True)) (by (with_reducible repeat (first | apply Kd.R_alloc | apply Kd.R_drewN | apply Kd.R_drew)); exact Kd.R_mono HO_3.out (fun _ hk => ⟨trivial, hk⟩)) hg (.inl rfl)); have n1_ := Aside0.mk (hp_); have n2_ := Aside0.mk ((by rw [hw]; exact below_set (HB.out) GB27.out : Below w.heap.size w w29)); clear HO_3; clear HO_5; clear HB; have HO_3 := n0_; have HO_5 := n1_; have HB := n2_; clear n0_ n1_ n2_; clear hg hw hp_))
                          go_roundg kj11
                          case measure => have := HK1.out; have := HJ11.out; omega
                          case rel => exact ⟨(y272), (x6_1), (wrap64 (x7_1 + 1)), (by first | rfl | (simp; done) | (simp [*]; done)), (by first | rfl | (simp; done) | (simp [*]; done)), H', ⟨by have := HK1.out; have := HJ11.out; omega⟩, ⟨by (with_reducible repeat (first | apply Kd.R_alloc | apply Kd.R_drewN | apply Kd.R_drew)); exact Kd.R_mono HO_3.out (fun _ hk => hk.2)⟩, ⟨by (with_reducible repeat (first | apply Kd.R_alloc | apply Kd.R_drewN | apply Kd.R_drew)); exact HO_5.out⟩, ⟨by repeat (first | (with_reducible first | exact HB.out | apply below_alloc | apply pw_below_drewN | apply below_drew1) | exact HB.out)⟩⟩
                        · rw [if_neg c26] at H
                          exact absurd H (by simp)
                    · rw [if_neg c24] at H
                      exact absurd H (by simp)
                  · rw [if_neg c23] at H
                    exact absurd H (by simp)
          · rw [if_neg c11] at H
            have c11b0 : decide (x7_1 < (t259.length : Int)) = false := decide_eq_false c11
            clear c11
            have H' := Aside0.mk H
            clear H
            go_wp2
            go_loopg [8] k1 (fun kq v8 w' => ∃ (x5_2 : List Int) (x8_2 : Int), v8 = .int .i64 x8_2 ∧ Aside0 (abugidaref07_Directions.l1 kq a0 t259 t262 x5_2 x8_2 = some r) ∧ Aside0 (kq ≤ k1) ∧ Aside0 (Kd.R (Kd.int .i64) 3 w' w.heap.size (fun k_ => some k_ ≠ (v264 : Value).ownBlock) (.slice Ao8 t259.length co8) t259) ∧ Aside0 (Kd.R (Kd.int .i64) 3 w' w.heap.size (fun k_ => some k_ ≠ ((.slice Ao8 t259.length co8) : Value).ownBlock) v264 x5_2) ∧ Aside0 (Below w.heap.size w w'))
            case atStart => exact ⟨(x5_1), (0), (by first | rfl | (simp; done) | (simp [*]; done)), H', ⟨Nat.le_refl _⟩, ⟨by (with_reducible repeat (first | apply Kd.R_alloc | apply Kd.R_drewN | apply Kd.R_drew)); exact HO_3.out⟩, ⟨by (with_reducible repeat (first | apply Kd.R_alloc | apply Kd.R_drewN | apply Kd.R_drew)); exact HO_5.out⟩, ⟨by repeat (first | (with_reducible first | exact HB.out | apply below_alloc | apply pw_below_drewN | apply below_drew1) | exact HB.out)⟩⟩
            case round =>
              clear H'
              try clear c1
              try clear c2
              try clear p2
              try clear q2
              try clear hx2
              try clear hf2
              try clear c3
              try clear c4
              try clear c4b0
              try clear c4b1
              try clear c5
              try clear c5b0
              try clear c5b1
              try clear p6
              try clear c11
              try clear c11b0
              try clear c13
              try clear c13b0
              try clear c14
              try clear c14b0
              try clear c14b1
              try clear c15
              try clear c16
              try clear c16b0
              try clear c17
              try clear c17b0
              try clear c18
              try clear c18b0
              try clear c18b1
              try clear c19
              try clear c19b0
              try clear p20
              try clear q20
              try clear hx20
              try clear hf20
              try clear c23
              try clear c23b0
              try clear c24
              try clear c24b0
              try clear c25
              try clear c25b0
              try clear c25b1
              try clear c26
              try clear c26b0
              try clear p26
              try clear q26
              try clear hx26
              try clear p27
              try clear q27
              try clear hx27
              try clear hf27
              try clear c29
              try clear hx20_0
              try clear hx266_0
              try clear hx267_0
              try clear hx268_0
              try clear hx269_0
              try clear hx271_0
              try clear hx27_0
              try clear p2
              try clear p20
              try clear p266
              try clear p267
              try clear p268
              try clear p269
              try clear p27
              try clear p271
              try clear q2
              try clear q20
              try clear q266
              try clear q267
              try clear q268
              try clear q269
              try clear q27
              try clear q271
              obtain ⟨x5_2, x8_2, rfl, HA, HK2, HO_3, HO_5, HB⟩ := hrel
              cases gk with
              | zero => exact absurd HA.out (by simp [abugidaref07_Directions.l1])
              | succ k2 =>
                have H := HA.out
                clear HA
                simp only [abugidaref07_Directions.l1] at H
                by_cases c30 : x8_2 < (t259.length : Int)
                · rw [if_pos c30] at H
                  have c30b0 : decide (x8_2 < (t259.length : Int)) = true := decide_eq_true c30
                  clear c30
                  by_cases c31 : 0 ≤ x8_2
                  · rw [if_pos c31] at H
                    have c31b0 : decide (0 ≤ x8_2) = true := decide_eq_true c31
                    clear c31
                    by_cases c32 : (rd t259 x8_2) = 0
                    · rw [if_pos c32] at H
                      have c32b0 : ((rd t259 x8_2) == 0) = true := beq_iff_eq.mpr c32
                      have c32b1 : ((rd t259 x8_2) != 0) = false := bne_eq_false_iff_eq.mpr c32
                      clear c32
                      have HC33 := Aside0.mk H
                      clear H
                      have p273 : 0 ≤ (x8_2 : Int) := of_decide_eq_true (by first | (with_reducible assumption) | assumption)
                      have q273 : x8_2 < (t259.length : Int) := of_decide_eq_true (by first | (with_reducible assumption) | assumption)
                      obtain ⟨ad273, e273, hx273_0⟩ := Kd.at_int (Kd.R_reads' HO_3.out).2.2 x8_2 p273 q273
                      cases e273
                      replace p273 := eq_true p273
                      replace q273 := eq_true q273
                      go_upto_block 4 with (fail)
                      go_cut [9] (fun v9 wc => ∃ (kq : Nat) (x9_32 : Int), v9 = .int .i64 x9_32 ∧ Aside0 (abugidaref07_Directions.j4 kq a0 t259 t262 x5_2 x8_2 x9_32 = some r) ∧ Aside0 (kq ≤ k2) ∧ Aside0 (Kd.R (Kd.int .i64) 3 wc w.heap.size (fun k_ => some k_ ≠ (v264 : Value).ownBlock) (.slice (some ad273) t259.length co8) t259) ∧ Aside0 (Kd.R (Kd.int .i64) 3 wc w.heap.size (fun k_ => some k_ ≠ ((.slice (some ad273) t259.length co8) : Value).ownBlock) v264 x5_2) ∧ Aside0 (Below w.heap.size w wc))
                      case first =>
                        have H := HC33.out
                        clear HC33
                        have H' := Aside0.mk H
                        clear H
                        go_wp2
                        go_loopg [9] k2 (fun kq v9 w' => ∃ (x9_3 : Int), v9 = .int .i64 x9_3 ∧ Aside0 (abugidaref07_Directions.l2 kq a0 t259 t262 x5_2 x8_2 x9_3 = some r) ∧ Aside0 (kq ≤ k2) ∧ Aside0 (Kd.R (Kd.int .i64) 3 w' w.heap.size (fun k_ => some k_ ≠ (v264 : Value).ownBlock) (.slice (some ad273) t259.length co8) t259) ∧ Aside0 (Kd.R (Kd.int .i64) 3 w' w.heap.size (fun k_ => some k_ ≠ ((.slice (some ad273) t259.length co8) : Value).ownBlock) v264 x5_2) ∧ Aside0 (Below w.heap.size w w'))
                        case atStart => exact ⟨(x8_2), (by first | rfl | (simp; done) | (simp [*]; done)), H', ⟨Nat.le_refl _⟩, ⟨by (with_reducible repeat (first | apply Kd.R_alloc | apply Kd.R_drewN | apply Kd.R_drew)); exact HO_3.out⟩, ⟨by (with_reducible repeat (first | apply Kd.R_alloc | apply Kd.R_drewN | apply Kd.R_drew)); exact HO_5.out⟩, ⟨by repeat (first | (with_reducible first | exact HB.out | apply below_alloc | apply pw_below_drewN | apply below_drew1) | exact HB.out)⟩⟩
                        case round =>
                          clear H'
                          try clear c1
                          try clear c2
                          try clear p2
                          try clear q2
                          try clear hx2
                          try clear hf2
                          try clear c3
                          try clear c4
                          try clear c4b0
                          try clear c4b1
                          try clear c5
                          try clear c5b0
                          try clear c5b1
                          try clear p6
                          try clear c11
                          try clear c11b0
                          try clear c13
                          try clear c13b0
                          try clear c14
                          try clear c14b0
                          try clear c14b1
                          try clear c15
                          try clear c16
                          try clear c16b0
                          try clear c17
                          try clear c17b0
                          try clear c18
                          try clear c18b0
                          try clear c18b1
                          try clear c19
                          try clear c19b0
                          try clear p20
                          try clear q20
                          try clear hx20
                          try clear hf20
                          try clear c23
                          try clear c23b0
                          try clear c24
                          try clear c24b0
                          try clear c25
                          try clear c25b0
                          try clear c25b1
                          try clear c26
                          try clear c26b0
                          try clear p26
                          try clear q26
                          try clear hx26
                          try clear p27
                          try clear q27
                          try clear hx27
                          try clear hf27
                          try clear c29
                          try clear c30
                          try clear c30b0
                          try clear c31
                          try clear c31b0
                          try clear c32
                          try clear c32b0
                          try clear c32b1
                          try clear c33
                          try clear hx20_0
                          try clear hx266_0
                          try clear hx267_0
                          try clear hx268_0
                          try clear hx269_0
                          try clear hx271_0
                          try clear hx273_0
                          try clear hx27_0
                          try clear p2
                          try clear p20
                          try clear p26
                          try clear p266
                          try clear p267
                          try clear p268
                          try clear p269
                          try clear p27
                          try clear p271
                          try clear p273
                          try clear p6
                          try clear q2
                          try clear q20
                          try clear q26
                          try clear q266
                          try clear q267
                          try clear q268
                          try clear q269
                          try clear q27
                          try clear q271
                          try clear q273
                          obtain ⟨x9_3, rfl, HA, HK3, HO_3, HO_5, HB⟩ := hrel
                          cases gk with
                          | zero => exact absurd HA.out (by simp [abugidaref07_Directions.l2])
                          | succ k3 =>
                            have H := HA.out
                            clear HA
                            simp only [abugidaref07_Directions.l2] at H
                            by_cases c34 : x9_3 < (t259.length : Int)
                            · rw [if_pos c34] at H
                              have c34b0 : decide (x9_3 < (t259.length : Int)) = true := decide_eq_true c34
                              clear c34
                              (first | rw [c34b0] | (simp only [i64_w, i32_w]; rw [c34b0]) | skip)
                              by_cases c35 : 0 ≤ x9_3
                              · rw [if_pos c35] at H
                                have c35b0 : decide (0 ≤ x9_3) = true := decide_eq_true c35
                                clear c35
                                by_cases c36 : (rd t259 x9_3) = 0
                                · rw [if_pos c36] at H
                                  have c36b0 : ((rd t259 x9_3) == 0) = true := beq_iff_eq.mpr c36
                                  have c36b1 : ((rd t259 x9_3) != 0) = false := bne_eq_false_iff_eq.mpr c36
                                  clear c36
                                  have H' := Aside0.mk H
                                  clear H
                                  have p274 : 0 ≤ (x9_3 : Int) := of_decide_eq_true (by first | (with_reducible assumption) | assumption)
                                  have q274 : x9_3 < (t259.length : Int) := of_decide_eq_true (by first | (with_reducible assumption) | assumption)
                                  obtain ⟨ad274, e274, hx274_0⟩ := Kd.at_int (Kd.R_reads' HO_3.out).2.2 x9_3 p274 q274
                                  obtain rfl : ad273 = ad274 := (by injection e274)
                                  replace p274 := eq_true p274
                                  replace q274 := eq_true q274
                                  go_wp2
                                  go_roundg k3
                                  case measure => have := HK1.out; have := HK2.out; have := HK3.out; omega
                                  case rel => exact ⟨(wrap64 (x9_3 + 1)), (by first | rfl | (simp; done) | (simp [*]; done)), H', ⟨by have := HK1.out; have := HK2.out; have := HK3.out; omega⟩, ⟨by (with_reducible repeat (first | apply Kd.R_alloc | apply Kd.R_drewN | apply Kd.R_drew)); exact HO_3.out⟩, ⟨by (with_reducible repeat (first | apply Kd.R_alloc | apply Kd.R_drewN | apply Kd.R_drew)); exact HO_5.out⟩, ⟨by repeat (first | (with_reducible first | exact HB.out | apply below_alloc | apply pw_below_drewN | apply below_drew1) | exact HB.out)⟩⟩
                                · rw [if_neg c36] at H
                                  have c36b0 : ((rd t259 x9_3) == 0) = false := beq_eq_false_iff_ne.mpr c36
                                  have c36b1 : ((rd t259 x9_3) != 0) = true := bne_iff_ne.mpr c36
                                  have H' := Aside0.mk H
                                  clear H
                                  have p274 : 0 ≤ (x9_3 : Int) := of_decide_eq_true (by first | (with_reducible assumption) | assumption)
                                  have q274 : x9_3 < (t259.length : Int) := of_decide_eq_true (by first | (with_reducible assumption) | assumption)
                                  obtain ⟨ad274, e274, hx274_0⟩ := Kd.at_int (Kd.R_reads' HO_3.out).2.2 x9_3 p274 q274
                                  obtain rfl : ad273 = ad274 := (by injection e274)
                                  replace p274 := eq_true p274
                                  replace q274 := eq_true q274
                                  go_wp2
                                  go_meet
                                  case rel => exact ⟨_, (x9_3), (by first | rfl | (simp; done) | (simp [*]; done)), H', ⟨by have := HK1.out; have := HK2.out; have := HK3.out; first | omega | exact Nat.le_refl _⟩, ⟨by (with_reducible repeat (first | apply Kd.R_alloc | apply Kd.R_drewN | apply Kd.R_drew)); exact HO_3.out⟩, ⟨by (with_reducible repeat (first | apply Kd.R_alloc | apply Kd.R_drewN | apply Kd.R_drew)); exact HO_5.out⟩, ⟨by repeat (first | (with_reducible first | exact HB.out | apply below_alloc | apply pw_below_drewN | apply below_drew1) | exact HB.out)⟩⟩
                              · rw [if_neg c35] at H
                                exact absurd H (by simp)
                            · rw [if_neg c34] at H
                              have c34b0 : decide (x9_3 < (t259.length : Int)) = false := decide_eq_false c34
                              clear c34
                              (first | rw [c34b0] | (simp only [i64_w, i32_w]; rw [c34b0]) | skip)
                              have H' := Aside0.mk H
                              clear H
                              go_wp2
                              go_meet
                              case rel => exact ⟨_, (x9_3), (by first | rfl | (simp; done) | (simp [*]; done)), H', ⟨by have := HK1.out; have := HK2.out; have := HK3.out; first | omega | exact Nat.le_refl _⟩, ⟨by (with_reducible repeat (first | apply Kd.R_alloc | apply Kd.R_drewN | apply Kd.R_drew)); exact HO_3.out⟩, ⟨by (with_reducible repeat (first | apply Kd.R_alloc | apply Kd.R_drewN | apply Kd.R_drew)); exact HO_5.out⟩, ⟨by repeat (first | (with_reducible first | exact HB.out | apply below_alloc | apply pw_below_drewN | apply below_drew1) | exact HB.out)⟩⟩
                      case rest =>
                        clear HC33
                        try clear c1
                        try clear c2
                        try clear p2
                        try clear q2
                        try clear hx2
                        try clear hf2
                        try clear c3
                        try clear c4
                        try clear c4b0
                        try clear c4b1
                        try clear c5
                        try clear c5b0
                        try clear c5b1
                        try clear p6
                        try clear c11
                        try clear c11b0
                        try clear c13
                        try clear c13b0
                        try clear c14
                        try clear c14b0
                        try clear c14b1
                        try clear c15
                        try clear c16
                        try clear c16b0
                        try clear c17
                        try clear c17b0
                        try clear c18
                        try clear c18b0
                        try clear c18b1
                        try clear c19
                        try clear c19b0
                        try clear p20
                        try clear q20
                        try clear hx20
                        try clear hf20
                        try clear c23
                        try clear c23b0
                        try clear c24
                        try clear c24b0
                        try clear c25
                        try clear c25b0
                        try clear c25b1
                        try clear c26
                        try clear c26b0
                        try clear p26
                        try clear q26
                        try clear hx26
                        try clear p27
                        try clear q27
                        try clear hx27
                        try clear hf27
                        try clear c29
                        try clear c30
                        try clear c30b0
                        try clear c31
                        try clear c31b0
                        try clear c32
                        try clear c32b0
                        try clear c32b1
                        try clear c33
                        try clear c34
                        try clear c34b0
                        try clear c35
                        try clear c35b0
                        try clear c36
                        try clear c36b0
                        try clear c36b1
                        try clear hx20_0
                        try clear hx266_0
                        try clear hx267_0
                        try clear hx268_0
                        try clear hx269_0
                        try clear hx271_0
                        try clear hx273_0
                        try clear hx274_0
                        try clear hx27_0
                        try clear p2
                        try clear p20
                        try clear p26
                        try clear p266
                        try clear p267
                        try clear p268
                        try clear p269
                        try clear p27
                        try clear p271
                        try clear p273
                        try clear p274
                        try clear p6
                        try clear q2
                        try clear q20
                        try clear q26
                        try clear q266
                        try clear q267
                        try clear q268
                        try clear q269
                        try clear q27
                        try clear q271
                        try clear q273
                        try clear q274
                        obtain ⟨kq, x9_32, rfl, HA, HJ32, HO_3, HO_5, HB⟩ := hcut
                        cases kq with
                        | zero => exact absurd HA.out (by simp [abugidaref07_Directions.j4])
                        | succ kj32 =>
                          have H := HA.out
                          clear HA
                          simp only [abugidaref07_Directions.j4] at H
                          have HC37 := Aside0.mk H
                          clear H
                          go_upto_if 80 with (fail)
                          go_cut [10] (fun v10 wc => ∃ (kq : Nat) (x10_36 : Int), v10 = .int .i64 x10_36 ∧ Aside0 (abugidaref07_Directions.j5 kq a0 t259 t262 x5_2 x8_2 x9_32 x10_36 = some r) ∧ Aside0 (kq ≤ kj32) ∧ Aside0 (Kd.R (Kd.int .i64) 3 wc w.heap.size (fun k_ => some k_ ≠ (v264 : Value).ownBlock) (.slice (some ad273) t259.length co8) t259) ∧ Aside0 (Kd.R (Kd.int .i64) 3 wc w.heap.size (fun k_ => some k_ ≠ ((.slice (some ad273) t259.length co8) : Value).ownBlock) v264 x5_2) ∧ Aside0 (Below w.heap.size w wc))
                          case first =>
                            have H := HC37.out
                            clear HC37
                            by_cases c38 : x8_2 > 0
                            · rw [if_pos c38] at H
                              have c38b0 : decide (0 < x8_2) = true := decide_eq_true c38
                              clear c38
                              (first | rw [c38b0] | (simp only [i64_w, i32_w]; rw [c38b0]) | skip)
                              obtain ⟨ji39, hji39⟩ : ∃ j_ : Int, (wrap64 (x8_2 - 1)) = j_ := ⟨_, rfl⟩
                              replace H : (if 0 ≤ (ji39) then (if (ji39) < (x5_2.length : Int) then (abugidaref07_Directions.j5 kj32 a0 t259 t262 x5_2 x8_2 x9_32 (rd x5_2 (ji39))) else (none)) else (none)) = some r := by first | (rw [hji39] at H; exact H) | (simp only [hji39] at H ⊢; exact H)
                              have hji39w : (IntKind.i64.wrap (x8_2 - 1)) = ji39 := (i64_w _).trans hji39
                              by_cases c40 : 0 ≤ (ji39)
                              · rw [if_pos c40] at H
                                have c40b0 : decide (0 ≤ (ji39)) = true := decide_eq_true c40
                                clear c40
                                by_cases c41 : (ji39) < (x5_2.length : Int)
                                · rw [if_pos c41] at H
                                  have c41b0 : decide ((ji39) < (x5_2.length : Int)) = true := decide_eq_true c41
                                  clear c41
                                  have H' := Aside0.mk H
                                  clear H
                                  obtain ⟨Ao42, co42, eo42⟩ := Kd.R_slice HO_5.out
                                  subst eo42
                                  have p275 : 0 ≤ ((ji39) : Int) := of_decide_eq_true (by first | (with_reducible assumption) | assumption)
                                  have q275 : (ji39) < (x5_2.length : Int) := of_decide_eq_true (by first | (with_reducible assumption) | assumption)
                                  obtain ⟨ad275, e275, hx275_0⟩ := Kd.at_int (Kd.R_reads' HO_5.out).2.2 (ji39) p275 q275
                                  cases e275
                                  replace p275 := eq_true p275
                                  replace q275 := eq_true q275
                                  go_wp2
                                  go_meet
                                  case rel => exact ⟨_, (rd x5_2 (ji39)), (by first | rfl | (simp; done) | (simp only [← hji39] <;> (first | rfl | simp)) | (simp [*]; done)), H', ⟨by have := HK1.out; have := HK2.out; have := HJ32.out; first | omega | exact Nat.le_refl _⟩, ⟨by (with_reducible repeat (first | apply Kd.R_alloc | apply Kd.R_drewN | apply Kd.R_drew)); exact HO_3.out⟩, ⟨by (with_reducible repeat (first | apply Kd.R_alloc | apply Kd.R_drewN | apply Kd.R_drew)); exact HO_5.out⟩, ⟨by repeat (first | (with_reducible first | exact HB.out | apply below_alloc | apply pw_below_drewN | apply below_drew1) | exact HB.out)⟩⟩
                                · rw [if_neg c41] at H
                                  exact absurd H (by simp)
                              · rw [if_neg c40] at H
                                exact absurd H (by simp)
                            · rw [if_neg c38] at H
                              have c38b0 : decide (0 < x8_2) = false := decide_eq_false c38
                              clear c38
                              (first | rw [c38b0] | (simp only [i64_w, i32_w]; rw [c38b0]) | skip)
                              have H' := Aside0.mk H
                              clear H
                              go_wp2
                              go_meet
                              case rel => exact ⟨_, (t262), (by first | rfl | (simp; done) | (simp [*]; done)), H', ⟨by have := HK1.out; have := HK2.out; have := HJ32.out; first | omega | exact Nat.le_refl _⟩, ⟨by (with_reducible repeat (first | apply Kd.R_alloc | apply Kd.R_drewN | apply Kd.R_drew)); exact HO_3.out⟩, ⟨by (with_reducible repeat (first | apply Kd.R_alloc | apply Kd.R_drewN | apply Kd.R_drew)); exact HO_5.out⟩, ⟨by repeat (first | (with_reducible first | exact HB.out | apply below_alloc | apply pw_below_drewN | apply below_drew1) | exact HB.out)⟩⟩
                          case rest =>
                            clear HC37
                            try clear c1
                            try clear c2
                            try clear p2
                            try clear q2
                            try clear hx2
                            try clear hf2
                            try clear c3
                            try clear c4
                            try clear c4b0
                            try clear c4b1
                            try clear c5
                            try clear c5b0
                            try clear c5b1
                            try clear p6
                            try clear c11
                            try clear c11b0
                            try clear c13
                            try clear c13b0
                            try clear c14
                            try clear c14b0
                            try clear c14b1
                            try clear c15
                            try clear c16
                            try clear c16b0
                            try clear c17
                            try clear c17b0
                            try clear c18
                            try clear c18b0
                            try clear c18b1
                            try clear c19
                            try clear c19b0
                            try clear p20
                            try clear q20
                            try clear hx20
                            try clear hf20
                            try clear c23
                            try clear c23b0
                            try clear c24
                            try clear c24b0
                            try clear c25
                            try clear c25b0
                            try clear c25b1
                            try clear c26
                            try clear c26b0
                            try clear p26
                            try clear q26
                            try clear hx26
                            try clear p27
                            try clear q27
                            try clear hx27
                            try clear hf27
                            try clear c29
                            try clear c30
                            try clear c30b0
                            try clear c31
                            try clear c31b0
                            try clear c32
                            try clear c32b0
                            try clear c32b1
                            try clear c33
                            try clear c34
                            try clear c34b0
                            try clear c35
                            try clear c35b0
                            try clear c36
                            try clear c36b0
                            try clear c36b1
                            try clear c38
                            try clear c38b0
                            try clear c40
                            try clear c40b0
                            try clear c41
                            try clear c41b0
                            try clear hx20_0
                            try clear hx266_0
                            try clear hx267_0
                            try clear hx268_0
                            try clear hx269_0
                            try clear hx271_0
                            try clear hx273_0
                            try clear hx274_0
                            try clear hx275_0
                            try clear hx27_0
                            try clear p2
                            try clear p20
                            try clear p26
                            try clear p266
                            try clear p267
                            try clear p268
                            try clear p269
                            try clear p27
                            try clear p271
                            try clear p273
                            try clear p274
                            try clear p275
                            try clear p6
                            try clear q2
                            try clear q20
                            try clear q26
                            try clear q266
                            try clear q267
                            try clear q268
                            try clear q269
                            try clear q27
                            try clear q271
                            try clear q273
                            try clear q274
                            try clear q275
                            obtain ⟨kq, x10_36, rfl, HA, HJ36, HO_3, HO_5, HB⟩ := hcut
                            cases kq with
                            | zero => exact absurd HA.out (by simp [abugidaref07_Directions.j5])
                            | succ kj36 =>
                              have H := HA.out
                              clear HA
                              simp only [abugidaref07_Directions.j5] at H
                              have HC43 := Aside0.mk H
                              clear H
                              go_upto_if 90 with (fail)
                              go_cut [11] (fun v11 wc => ∃ (kq : Nat) (x11_42 : Int), v11 = .int .i64 x11_42 ∧ Aside0 (abugidaref07_Directions.j6 kq a0 t259 t262 x5_2 x8_2 x9_32 x10_36 x11_42 = some r) ∧ Aside0 (kq ≤ kj36) ∧ Aside0 (Kd.R (Kd.int .i64) 3 wc w.heap.size (fun k_ => some k_ ≠ (v264 : Value).ownBlock) (.slice (some ad273) t259.length co8) t259) ∧ Aside0 (Kd.R (Kd.int .i64) 3 wc w.heap.size (fun k_ => some k_ ≠ ((.slice (some ad273) t259.length co8) : Value).ownBlock) v264 x5_2) ∧ Aside0 (Below w.heap.size w wc))
                              case first =>
                                have H := HC43.out
                                clear HC43
                                by_cases c44 : x9_32 < (t259.length : Int)
                                · rw [if_pos c44] at H
                                  have c44b0 : decide (x9_32 < (t259.length : Int)) = true := decide_eq_true c44
                                  clear c44
                                  (first | rw [c44b0] | (simp only [i64_w, i32_w]; rw [c44b0]) | skip)
                                  by_cases c45 : 0 ≤ x9_32
                                  · rw [if_pos c45] at H
                                    have c45b0 : decide (0 ≤ x9_32) = true := decide_eq_true c45
                                    clear c45
                                    by_cases c46 : x9_32 < (x5_2.length : Int)
                                    · rw [if_pos c46] at H
                                      have c46b0 : decide (x9_32 < (x5_2.length : Int)) = true := decide_eq_true c46
                                      clear c46
                                      have H' := Aside0.mk H
                                      clear H
                                      obtain ⟨Ao47, co47, eo47⟩ := Kd.R_slice HO_5.out
                                      subst eo47
                                      have p276 : 0 ≤ (x9_32 : Int) := of_decide_eq_true (by first | (with_reducible assumption) | assumption)
                                      have q276 : x9_32 < (x5_2.length : Int) := of_decide_eq_true (by first | (with_reducible assumption) | assumption)
                                      obtain ⟨ad276, e276, hx276_0⟩ := Kd.at_int (Kd.R_reads' HO_5.out).2.2 x9_32 p276 q276
                                      cases e276
                                      replace p276 := eq_true p276
                                      replace q276 := eq_true q276
                                      go_wp2
                                      go_meet
                                      case rel => exact ⟨_, (rd x5_2 x9_32), (by first | rfl | (simp; done) | (simp [*]; done)), H', ⟨by have := HK1.out; have := HK2.out; have := HJ32.out; have := HJ36.out; first | omega | exact Nat.le_refl _⟩, ⟨by (with_reducible repeat (first | apply Kd.R_alloc | apply Kd.R_drewN | apply Kd.R_drew)); exact HO_3.out⟩, ⟨by (with_reducible repeat (first | apply Kd.R_alloc | apply Kd.R_drewN | apply Kd.R_drew)); exact HO_5.out⟩, ⟨by repeat (first | (with_reducible first | exact HB.out | apply below_alloc | apply pw_below_drewN | apply below_drew1) | exact HB.out)⟩⟩
                                    · rw [if_neg c46] at H
                                      exact absurd H (by simp)
                                  · rw [if_neg c45] at H
                                    exact absurd H (by simp)
                                · rw [if_neg c44] at H
                                  have c44b0 : decide (x9_32 < (t259.length : Int)) = false := decide_eq_false c44
                                  clear c44
                                  (first | rw [c44b0] | (simp only [i64_w, i32_w]; rw [c44b0]) | skip)
                                  have H' := Aside0.mk H
                                  clear H
                                  go_wp2
                                  go_meet
                                  case rel => exact ⟨_, (t262), (by first | rfl | (simp; done) | (simp [*]; done)), H', ⟨by have := HK1.out; have := HK2.out; have := HJ32.out; have := HJ36.out; first | omega | exact Nat.le_refl _⟩, ⟨by (with_reducible repeat (first | apply Kd.R_alloc | apply Kd.R_drewN | apply Kd.R_drew)); exact HO_3.out⟩, ⟨by (with_reducible repeat (first | apply Kd.R_alloc | apply Kd.R_drewN | apply Kd.R_drew)); exact HO_5.out⟩, ⟨by repeat (first | (with_reducible first | exact HB.out | apply below_alloc | apply pw_below_drewN | apply below_drew1) | exact HB.out)⟩⟩
                              case rest =>
                                clear HC43
                                try clear c1
                                try clear c2
                                try clear p2
                                try clear q2
                                try clear hx2
                                try clear hf2
                                try clear c3
                                try clear c4
                                try clear c4b0
                                try clear c4b1
                                try clear c5
                                try clear c5b0
                                try clear c5b1
                                try clear p6
                                try clear c11
                                try clear c11b0
                                try clear c13
                                try clear c13b0
                                try clear c14
                                try clear c14b0
                                try clear c14b1
                                try clear c15
                                try clear c16
                                try clear c16b0
                                try clear c17
                                try clear c17b0
                                try clear c18
                                try clear c18b0
                                try clear c18b1
                                try clear c19
                                try clear c19b0
                                try clear p20
                                try clear q20
                                try clear hx20
                                try clear hf20
                                try clear c23
                                try clear c23b0
                                try clear c24
                                try clear c24b0
                                try clear c25
                                try clear c25b0
                                try clear c25b1
                                try clear c26
                                try clear c26b0
                                try clear p26
                                try clear q26
                                try clear hx26
                                try clear p27
                                try clear q27
                                try clear hx27
                                try clear hf27
                                try clear c29
                                try clear c30
                                try clear c30b0
                                try clear c31
                                try clear c31b0
                                try clear c32
                                try clear c32b0
                                try clear c32b1
                                try clear c33
                                try clear c34
                                try clear c34b0
                                try clear c35
                                try clear c35b0
                                try clear c36
                                try clear c36b0
                                try clear c36b1
                                try clear c38
                                try clear c38b0
                                try clear c40
                                try clear c40b0
                                try clear c41
                                try clear c41b0
                                try clear c44
                                try clear c44b0
                                try clear c45
                                try clear c45b0
                                try clear c46
                                try clear c46b0
                                try clear hx20_0
                                try clear hx266_0
                                try clear hx267_0
                                try clear hx268_0
                                try clear hx269_0
                                try clear hx271_0
                                try clear hx273_0
                                try clear hx274_0
                                try clear hx275_0
                                try clear hx276_0
                                try clear hx27_0
                                try clear p2
                                try clear p20
                                try clear p26
                                try clear p266
                                try clear p267
                                try clear p268
                                try clear p269
                                try clear p27
                                try clear p271
                                try clear p273
                                try clear p274
                                try clear p275
                                try clear p276
                                try clear p6
                                try clear q2
                                try clear q20
                                try clear q26
                                try clear q266
                                try clear q267
                                try clear q268
                                try clear q269
                                try clear q27
                                try clear q271
                                try clear q273
                                try clear q274
                                try clear q275
                                try clear q276
                                obtain ⟨kq, x11_42, rfl, HA, HJ42, HO_3, HO_5, HB⟩ := hcut
                                cases kq with
                                | zero => exact absurd HA.out (by simp [abugidaref07_Directions.j6])
                                | succ kj42 =>
                                  have H := HA.out
                                  clear HA
                                  simp only [abugidaref07_Directions.j6] at H
                                  have H' := Aside0.mk H
                                  clear H
                                  go_wp2
                                  go_loopg [12] kj42 (fun kq v12 w' => ∃ (x5_6 : List Int) (x12_6 : Int), v12 = .int .i64 x12_6 ∧ Aside0 (abugidaref07_Directions.l3 kq a0 t259 t262 x5_6 x9_32 x10_36 x11_42 x12_6 = some r) ∧ Aside0 (kq ≤ kj42) ∧ Aside0 (Kd.R (Kd.int .i64) 3 w' w.heap.size (fun k_ => some k_ ≠ (v264 : Value).ownBlock) (.slice (some ad273) t259.length co8) t259) ∧ Aside0 (Kd.R (Kd.int .i64) 3 w' w.heap.size (fun k_ => some k_ ≠ ((.slice (some ad273) t259.length co8) : Value).ownBlock) v264 x5_6) ∧ Aside0 (Below w.heap.size w w'))
                                  case atStart => exact ⟨(x5_2), (x8_2), (by first | rfl | (simp; done) | (simp [*]; done)), H', ⟨Nat.le_refl _⟩, ⟨by (with_reducible repeat (first | apply Kd.R_alloc | apply Kd.R_drewN | apply Kd.R_drew)); exact HO_3.out⟩, ⟨by (with_reducible repeat (first | apply Kd.R_alloc | apply Kd.R_drewN | apply Kd.R_drew)); exact HO_5.out⟩, ⟨by repeat (first | (with_reducible first | exact HB.out | apply below_alloc | apply pw_below_drewN | apply below_drew1) | exact HB.out)⟩⟩
                                  case round =>
                                    clear H'
                                    try clear c1
                                    try clear c2
                                    try clear p2
                                    try clear q2
                                    try clear hx2
                                    try clear hf2
                                    try clear c3
                                    try clear c4
                                    try clear c4b0
                                    try clear c4b1
                                    try clear c5
                                    try clear c5b0
                                    try clear c5b1
                                    try clear p6
                                    try clear c11
                                    try clear c11b0
                                    try clear c13
                                    try clear c13b0
                                    try clear c14
                                    try clear c14b0
                                    try clear c14b1
                                    try clear c15
                                    try clear c16
                                    try clear c16b0
                                    try clear c17
                                    try clear c17b0
                                    try clear c18
                                    try clear c18b0
                                    try clear c18b1
                                    try clear c19
                                    try clear c19b0
                                    try clear p20
                                    try clear q20
                                    try clear hx20
                                    try clear hf20
                                    try clear c23
                                    try clear c23b0
                                    try clear c24
                                    try clear c24b0
                                    try clear c25
                                    try clear c25b0
                                    try clear c25b1
                                    try clear c26
                                    try clear c26b0
                                    try clear p26
                                    try clear q26
                                    try clear hx26
                                    try clear p27
                                    try clear q27
                                    try clear hx27
                                    try clear hf27
                                    try clear c29
                                    try clear c30
                                    try clear c30b0
                                    try clear c31
                                    try clear c31b0
                                    try clear c32
                                    try clear c32b0
                                    try clear c32b1
                                    try clear c33
                                    try clear c34
                                    try clear c34b0
                                    try clear c35
                                    try clear c35b0
                                    try clear c36
                                    try clear c36b0
                                    try clear c36b1
                                    try clear c38
                                    try clear c38b0
                                    try clear c40
                                    try clear c40b0
                                    try clear c41
                                    try clear c41b0
                                    try clear c44
                                    try clear c44b0
                                    try clear c45
                                    try clear c45b0
                                    try clear c46
                                    try clear c46b0
                                    try clear hx20_0
                                    try clear hx266_0
                                    try clear hx267_0
                                    try clear hx268_0
                                    try clear hx269_0
                                    try clear hx271_0
                                    try clear hx273_0
                                    try clear hx274_0
                                    try clear hx275_0
                                    try clear hx276_0
                                    try clear hx27_0
                                    try clear p2
                                    try clear p20
                                    try clear p26
                                    try clear p266
                                    try clear p267
                                    try clear p268
                                    try clear p269
                                    try clear p27
                                    try clear p271
                                    try clear p273
                                    try clear p274
                                    try clear p275
                                    try clear p276
                                    try clear p6
                                    try clear q2
                                    try clear q20
                                    try clear q26
                                    try clear q266
                                    try clear q267
                                    try clear q268
                                    try clear q269
                                    try clear q27
                                    try clear q271
                                    try clear q273
                                    try clear q274
                                    try clear q275
                                    try clear q276
                                    obtain ⟨x5_6, x12_6, rfl, HA, HK6, HO_3, HO_5, HB⟩ := hrel
                                    cases gk with
                                    | zero => exact absurd HA.out (by simp [abugidaref07_Directions.l3])
                                    | succ k6 =>
                                      have H := HA.out
                                      clear HA
                                      simp only [abugidaref07_Directions.l3] at H
                                      by_cases c48 : x12_6 < x9_32
                                      · rw [if_pos c48] at H
                                        have c48b0 : decide (x12_6 < x9_32) = true := decide_eq_true c48
                                        clear c48
                                        by_cases c49 : 0 ≤ x12_6
                                        · rw [if_pos c49] at H
                                          have c49b0 : decide (0 ≤ x12_6) = true := decide_eq_true c49
                                          clear c49
                                          by_cases c50 : x12_6 < (x5_6.length : Int)
                                          · rw [if_pos c50] at H
                                            have c50b0 : decide (x12_6 < (x5_6.length : Int)) = true := decide_eq_true c50
                                            clear c50
                                            obtain ⟨y277, hy277⟩ : ∃ y_ : List Int, y_ = (x5_6.set (x12_6 : Int).toNat t262) := ⟨_, rfl⟩
                                            replace H : (if x10_36 = x11_42 then (abugidaref07_Directions.l3 k6 a0 t259 t262 (y277.set (x12_6 : Int).toNat x10_36) x9_32 x10_36 x11_42 (wrap64 (x12_6 + 1))) else (abugidaref07_Directions.l3 k6 a0 t259 t262 y277 x9_32 x10_36 x11_42 (wrap64 (x12_6 + 1)))) = some r := by first | (rw [hy277]; with_reducible exact H) | (have H2_ := (Option.bind_some _ _).symm.trans H; rw [hy277]; with_reducible exact H2_) | (have H2_ := (Option.bind_some _ _).symm.trans H; with_reducible exact H2_) | with_reducible exact H | (rw [hy277]; exact H) | exact H
                                            have Ny277 := Aside0.mk hy277
                                            clear hy277
                                            by_cases c52 : x10_36 = x11_42
                                            · rw [if_pos c52] at H
                                              have c52b0 : (x10_36 == x11_42) = true := beq_iff_eq.mpr c52
                                              have c52b1 : (x10_36 != x11_42) = false := bne_eq_false_iff_eq.mpr c52
                                              clear c52
                                              obtain ⟨y278, hy278⟩ : ∃ y_ : List Int, y_ = (y277.set (x12_6 : Int).toNat x10_36) := ⟨_, rfl⟩
                                              replace H : (abugidaref07_Directions.l3 k6 a0 t259 t262 y278 x9_32 x10_36 x11_42 (wrap64 (x12_6 + 1))) = some r := by first | (rw [hy278]; with_reducible exact H) | (have H2_ := (Option.bind_some _ _).symm.trans H; rw [hy278]; with_reducible exact H2_) | (have H2_ := (Option.bind_some _ _).symm.trans H; with_reducible exact H2_) | with_reducible exact H | (rw [hy278]; exact H) | exact H
                                              have Ny278 := Aside0.mk hy278
                                              clear hy278
                                              have H' := Aside0.mk H
                                              clear H
                                              have p51 : 0 ≤ (x12_6 : Int) := of_decide_eq_true (by first | (with_reducible assumption) | assumption)
                                              have q51 : (x12_6 : Int) < ((x5_6.length : Int) : Int) := of_decide_eq_true (by first | (with_reducible assumption) | assumption)
                                              obtain ⟨go51, co51, eo51, gb51, gl51, cl51, HG51⟩ := Kd.R_form HO_5.out (by omega)
                                              (first | cases eo51 | (injection eo51 with ea_ en_ ec_; (first | subst ea_ | (injection ea_ with ea_; subst ea_)); subst ec_; clear en_))
                                              have GB51 := Aside0.mk gb51
                                              have GG51 := Aside0.mk HG51
                                              clear gb51 gl51 HG51
                                              obtain ⟨hx51_0, hf51_0⟩ := Kd.R_celln 0 HO_5.out (x12_6 : Int) p51 q51
                                              replace p51 := eq_true p51
                                              replace q51 := eq_true q51
                                              have HP54 := Kd.R_putg HO_5.out (x12_6 : Int) t262
                                              go_wp2_with (first | ((with_reducible refine gate_store (t := 3) (p := 104) rfl ?_); refine store_event (t := 3) (p := 104) (v := ?vo_w55) (w1 := (wr.setCell ⟨go51, (x12_6 : Int).toNat, none⟩ (.int .i64 t262))) ?hg ?ho ?hn ?hr ?_; (case ho => rfl); (case hg => rfl); (case hn => rfl); (case hr => first | (go_simp; done) | (go_simp; rfl)); intro w55 hw; have hg : wr.grownBy w55 (some go51) := (by rw [hw]; exact HP54.2); have hp_ : Kd.R (Kd.int .i64) 3 w55 w.heap.size (fun k_ => some k_ ≠ (.slice (some ad273) t259.length co8 : Value).ownBlock) (.slice (some ⟨go51, 0, none⟩) x5_6.length co51) y277 := (by rw [hw, Ny277.out]; exact HP54.1); clear HP54; have n0_ := Aside0.mk (Kd.R_after (v := (.slice (some ⟨go51, 0, none⟩) x5_6.length co51)) (v1 := (.slice (some ⟨go51, 0, none⟩) x5_6.length co51)) (ok := (fun _ => True)) (by (with_reducible repeat (first | apply Kd.R_alloc | apply Kd.R_drewN | apply Kd.R_drew)); exact Kd.R_mono HO_3.out (fun _ hk => ⟨trivial, hk⟩)) hg (.inl rfl)); have n1_ := Aside0.mk (hp_); have n2_ := Aside0.mk ((by rw [hw]; exact below_set (HB.out) GB51.out : Below w.heap.size w w55)); clear HO_3; clear HO_5; clear HB; have HO_3 := n0_; have HO_5 := n1_; have HB := n2_; clear n0_ n1_ n2_; clear hg hw hp_; have p53 : 0 ≤ (x12_6 : Int) := of_decide_eq_true (by first | (with_reducible assumption) | assumption); have q53 : (x12_6 : Int) < ((x5_6.length : Int) : Int) := of_decide_eq_true (by first | (with_reducible assumption) | assumption); obtain ⟨hx53_0, hf53_0⟩ := Kd.R_celln 0 HO_5.out (x12_6 : Int) p53 q53; replace p53 := eq_true p53; replace q53 := eq_true q53; obtain ⟨hy56_, hz56_⟩ := Kd.R_celln 0 HO_5.out (x12_6 : Int) (of_decide_eq_true (by first | (with_reducible assumption) | assumption)) (of_decide_eq_true (by first | (with_reducible assumption) | assumption)); have HP56 := Kd.R_putg HO_5.out (x12_6 : Int) x10_36) | ((with_reducible refine gate_store (t := 3) (p := 111) rfl ?_); refine store_event (t := 3) (p := 111) (v := ?vo_w57) (w1 := (w55.setCell ⟨go51, (x12_6 : Int).toNat, none⟩ (.int .i64 x10_36))) ?hg ?ho ?hn ?hr ?_; (case ho => rfl); (case hg => rfl); (case hn => rfl); (case hr => first | (go_simp; done) | (go_simp; rfl)); intro w57 hw; have hg : w55.grownBy w57 (some go51) := (by rw [hw]; exact HP56.2); have hp_ : Kd.R (Kd.int .i64) 3 w57 w.heap.size (fun k_ => some k_ ≠ (.slice (some ad273) t259.length co8 : Value).ownBlock) (.slice (some ⟨go51, 0, none⟩) x5_6.length co51) y278 := (by rw [hw, Ny278.out]; exact HP56.1); clear HP56; have n0_ := Aside0.mk (Kd.R_after (v := (.slice (some ⟨go51, 0, none⟩) x5_6.length co51)) (v1 := (.slice (some ⟨go51, 0, none⟩) x5_6.length co51)) (ok := (fun _ => True)) (by (with_reducible repeat (first | apply Kd.R_alloc | apply Kd.R_drewN | apply Kd.R_drew)); exact HO_3.out) hg (.inl rfl)); have n1_ := Aside0.mk (hp_); have n2_ := Aside0.mk ((by rw [hw]; exact below_set (HB.out) GB51.out : Below w.heap.size w w57)); clear HO_3; clear HO_5; clear HB; have HO_3 := n0_; have HO_5 := n1_; have HB := n2_; clear n0_ n1_ n2_; clear hg hw hp_))
                                              go_roundg k6
                                              case measure => have := HK1.out; have := HK2.out; have := HJ32.out; have := HJ36.out; have := HJ42.out; have := HK6.out; omega
                                              case rel => exact ⟨(y278), (wrap64 (x12_6 + 1)), (by first | rfl | (simp; done) | (simp [*]; done)), H', ⟨by have := HK1.out; have := HK2.out; have := HJ32.out; have := HJ36.out; have := HJ42.out; have := HK6.out; omega⟩, ⟨by (with_reducible repeat (first | apply Kd.R_alloc | apply Kd.R_drewN | apply Kd.R_drew)); exact Kd.R_mono HO_3.out (fun _ hk => hk.2)⟩, ⟨by (with_reducible repeat (first | apply Kd.R_alloc | apply Kd.R_drewN | apply Kd.R_drew)); exact HO_5.out⟩, ⟨by repeat (first | (with_reducible first | exact HB.out | apply below_alloc | apply pw_below_drewN | apply below_drew1) | exact HB.out)⟩⟩
                                            · rw [if_neg c52] at H
                                              have c52b0 : (x10_36 == x11_42) = false := beq_eq_false_iff_ne.mpr c52
                                              have c52b1 : (x10_36 != x11_42) = true := bne_iff_ne.mpr c52
                                              have H' := Aside0.mk H
                                              clear H
                                              have p51 : 0 ≤ (x12_6 : Int) := of_decide_eq_true (by first | (with_reducible assumption) | assumption)
                                              have q51 : (x12_6 : Int) < ((x5_6.length : Int) : Int) := of_decide_eq_true (by first | (with_reducible assumption) | assumption)
                                              obtain ⟨go51, co51, eo51, gb51, gl51, cl51, HG51⟩ := Kd.R_form HO_5.out (by omega)
                                              (first | cases eo51 | (injection eo51 with ea_ en_ ec_; (first | subst ea_ | (injection ea_ with ea_; subst ea_)); subst ec_; clear en_))
                                              have GB51 := Aside0.mk gb51
                                              have GG51 := Aside0.mk HG51
                                              clear gb51 gl51 HG51
                                              obtain ⟨hx51_0, hf51_0⟩ := Kd.R_celln 0 HO_5.out (x12_6 : Int) p51 q51
                                              replace p51 := eq_true p51
                                              replace q51 := eq_true q51
                                              have HP58 := Kd.R_putg HO_5.out (x12_6 : Int) t262
                                              go_wp2_with (first | ((with_reducible refine gate_store (t := 3) (p := 104) rfl ?_); refine store_event (t := 3) (p := 104) (v := ?vo_w59) (w1 := (wr.setCell ⟨go51, (x12_6 : Int).toNat, none⟩ (.int .i64 t262))) ?hg ?ho ?hn ?hr ?_; (case ho => rfl); (case hg => rfl); (case hn => rfl); (case hr => first | (go_simp; done) | (go_simp; rfl)); intro w59 hw; have hg : wr.grownBy w59 (some go51) := (by rw [hw]; exact HP58.2); have hp_ : Kd.R (Kd.int .i64) 3 w59 w.heap.size (fun k_ => some k_ ≠ (.slice (some ad273) t259.length co8 : Value).ownBlock) (.slice (some ⟨go51, 0, none⟩) x5_6.length co51) y277 := (by rw [hw, Ny277.out]; exact HP58.1); clear HP58; have n0_ := Aside0.mk (Kd.R_after (v := (.slice (some ⟨go51, 0, none⟩) x5_6.length co51)) (v1 := (.slice (some ⟨go51, 0, none⟩) x5_6.length co51)) (ok := (fun _ => True)) (by (with_reducible repeat (first | apply Kd.R_alloc | apply Kd.R_drewN | apply Kd.R_drew)); exact Kd.R_mono HO_3.out (fun _ hk => ⟨trivial, hk⟩)) hg (.inl rfl)); have n1_ := Aside0.mk (hp_); have n2_ := Aside0.mk ((by rw [hw]; exact below_set (HB.out) GB51.out : Below w.heap.size w w59)); clear HO_3; clear HO_5; clear HB; have HO_3 := n0_; have HO_5 := n1_; have HB := n2_; clear n0_ n1_ n2_; clear hg hw hp_))
                                              go_roundg k6
                                              case measure => have := HK1.out; have := HK2.out; have := HJ32.out; have := HJ36.out; have := HJ42.out; have := HK6.out; omega
                                              case rel => exact ⟨(y277), (wrap64 (x12_6 + 1)), (by first | rfl | (simp; done) | (simp [*]; done)), H', ⟨by have := HK1.out; have := HK2.out; have := HJ32.out; have := HJ36.out; have := HJ42.out; have := HK6.out; omega⟩, ⟨by (with_reducible repeat (first | apply Kd.R_alloc | apply Kd.R_drewN | apply Kd.R_drew)); exact Kd.R_mono HO_3.out (fun _ hk => hk.2)⟩, ⟨by (with_reducible repeat (first | apply Kd.R_alloc | apply Kd.R_drewN | apply Kd.R_drew)); exact HO_5.out⟩, ⟨by repeat (first | (with_reducible first | exact HB.out | apply below_alloc | apply pw_below_drewN | apply below_drew1) | exact HB.out)⟩⟩
                                          · rw [if_neg c50] at H
                                            exact absurd H (by simp)
                                        · rw [if_neg c49] at H
                                          exact absurd H (by simp)
                                      · rw [if_neg c48] at H
                                        have c48b0 : decide (x12_6 < x9_32) = false := decide_eq_false c48
                                        clear c48
                                        have H' := Aside0.mk H
                                        clear H
                                        go_wp2
                                        go_roundg k6
                                        case measure => have := HK1.out; have := HK2.out; have := HJ32.out; have := HJ36.out; have := HJ42.out; have := HK6.out; omega
                                        case rel => exact ⟨(x5_6), (wrap64 ((wrap64 (x9_32 - 1)) + 1)), (by first | rfl | (simp; done) | (simp [*]; done)), H', ⟨by have := HK1.out; have := HK2.out; have := HJ32.out; have := HJ36.out; have := HJ42.out; have := HK6.out; omega⟩, ⟨by (with_reducible repeat (first | apply Kd.R_alloc | apply Kd.R_drewN | apply Kd.R_drew)); exact HO_3.out⟩, ⟨by (with_reducible repeat (first | apply Kd.R_alloc | apply Kd.R_drewN | apply Kd.R_drew)); exact HO_5.out⟩, ⟨by repeat (first | (with_reducible first | exact HB.out | apply below_alloc | apply pw_below_drewN | apply below_drew1) | exact HB.out)⟩⟩
                    · rw [if_neg c32] at H
                      have c32b0 : ((rd t259 x8_2) == 0) = false := beq_eq_false_iff_ne.mpr c32
                      have c32b1 : ((rd t259 x8_2) != 0) = true := bne_iff_ne.mpr c32
                      have H' := Aside0.mk H
                      clear H
                      have p273 : 0 ≤ (x8_2 : Int) := of_decide_eq_true (by first | (with_reducible assumption) | assumption)
                      have q273 : x8_2 < (t259.length : Int) := of_decide_eq_true (by first | (with_reducible assumption) | assumption)
                      obtain ⟨ad273, e273, hx273_0⟩ := Kd.at_int (Kd.R_reads' HO_3.out).2.2 x8_2 p273 q273
                      cases e273
                      replace p273 := eq_true p273
                      replace q273 := eq_true q273
                      go_wp2
                      go_roundg k2
                      case measure => have := HK1.out; have := HK2.out; omega
                      case rel => exact ⟨(x5_2), (wrap64 (x8_2 + 1)), (by first | rfl | (simp; done) | (simp [*]; done)), H', ⟨by have := HK1.out; have := HK2.out; omega⟩, ⟨by (with_reducible repeat (first | apply Kd.R_alloc | apply Kd.R_drewN | apply Kd.R_drew)); exact HO_3.out⟩, ⟨by (with_reducible repeat (first | apply Kd.R_alloc | apply Kd.R_drewN | apply Kd.R_drew)); exact HO_5.out⟩, ⟨by repeat (first | (with_reducible first | exact HB.out | apply below_alloc | apply pw_below_drewN | apply below_drew1) | exact HB.out)⟩⟩
                  · rw [if_neg c31] at H
                    exact absurd H (by simp)
                · rw [if_neg c30] at H
                  have c30b0 : decide (x8_2 < (t259.length : Int)) = false := decide_eq_false c30
                  clear c30
                  have H' := Aside0.mk H
                  clear H
                  go_wp2
                  go_loopg [13] k2 (fun kq v13 w' => ∃ (x5_3 : List Int) (x13_3 : Int), v13 = .int .i64 x13_3 ∧ Aside0 (abugidaref07_Directions.l4 kq a0 t262 x5_3 x13_3 = some r) ∧ Aside0 (kq ≤ k2) ∧ Aside0 (Kd.R (Kd.int .i64) 3 w' w.heap.size (fun _ => True) v264 x5_3) ∧ Aside0 (Below w.heap.size w w'))
                  case atStart => exact ⟨(x5_2), (0), (by first | rfl | (simp; done) | (simp [*]; done)), H', ⟨Nat.le_refl _⟩, ⟨by (with_reducible repeat (first | apply Kd.R_alloc | apply Kd.R_drewN | apply Kd.R_drew)); exact Kd.R_mono HO_5.out (fun _ hk => trivial)⟩, ⟨by repeat (first | (with_reducible first | exact HB.out | apply below_alloc | apply pw_below_drewN | apply below_drew1) | exact HB.out)⟩⟩
                  case round =>
                    clear H'
                    try clear c1
                    try clear c2
                    try clear p2
                    try clear q2
                    try clear hx2
                    try clear hf2
                    try clear c3
                    try clear c4
                    try clear c4b0
                    try clear c4b1
                    try clear c5
                    try clear c5b0
                    try clear c5b1
                    try clear p5
                    try clear q5
                    try clear hx5
                    try clear hf5
                    try clear p6
                    try clear c11
                    try clear c11b0
                    try clear c13
                    try clear c13b0
                    try clear c14
                    try clear c14b0
                    try clear c14b1
                    try clear c15
                    try clear c16
                    try clear c16b0
                    try clear c17
                    try clear c17b0
                    try clear c18
                    try clear c18b0
                    try clear c18b1
                    try clear c19
                    try clear c19b0
                    try clear p20
                    try clear q20
                    try clear hx20
                    try clear hf20
                    try clear c23
                    try clear c23b0
                    try clear c24
                    try clear c24b0
                    try clear c25
                    try clear c25b0
                    try clear c25b1
                    try clear c26
                    try clear c26b0
                    try clear p26
                    try clear q26
                    try clear hx26
                    try clear p27
                    try clear q27
                    try clear hx27
                    try clear hf27
                    try clear c29
                    try clear c30
                    try clear c30b0
                    try clear c31
                    try clear c31b0
                    try clear c32
                    try clear c32b0
                    try clear c32b1
                    try clear c33
                    try clear c34
                    try clear c34b0
                    try clear c35
                    try clear c35b0
                    try clear c36
                    try clear c36b0
                    try clear c36b1
                    try clear c38
                    try clear c38b0
                    try clear c40
                    try clear c40b0
                    try clear c41
                    try clear c41b0
                    try clear c44
                    try clear c44b0
                    try clear c45
                    try clear c45b0
                    try clear c46
                    try clear c46b0
                    try clear c48
                    try clear c48b0
                    try clear c49
                    try clear c49b0
                    try clear c50
                    try clear c50b0
                    try clear p51
                    try clear q51
                    try clear hx51
                    try clear hf51
                    try clear c52
                    try clear c52b0
                    try clear c52b1
                    try clear p53
                    try clear q53
                    try clear hx53
                    try clear hf53
                    try clear hx20_0
                    try clear hx266_0
                    try clear hx267_0
                    try clear hx268_0
                    try clear hx269_0
                    try clear hx271_0
                    try clear hx273_0
                    try clear hx274_0
                    try clear hx275_0
                    try clear hx276_0
                    try clear hx27_0
                    try clear hx51_0
                    try clear hx53_0
                    try clear p2
                    try clear p20
                    try clear p26
                    try clear p266
                    try clear p267
                    try clear p268
                    try clear p269
                    try clear p27
                    try clear p271
                    try clear p273
                    try clear p274
                    try clear p275
                    try clear p276
                    try clear p51
                    try clear p53
                    try clear p6
                    try clear q2
                    try clear q20
                    try clear q26
                    try clear q266
                    try clear q267
                    try clear q268
                    try clear q269
                    try clear q27
                    try clear q271
                    try clear q273
                    try clear q274
                    try clear q275
                    try clear q276
                    try clear q51
                    try clear q53
                    obtain ⟨x5_3, x13_3, rfl, HA, HK3, HO_5, HB⟩ := hrel
                    cases gk with
                    | zero => exact absurd HA.out (by simp [abugidaref07_Directions.l4])
                    | succ k3 =>
                      have H := HA.out
                      clear HA
                      simp only [abugidaref07_Directions.l4] at H
                      by_cases c60 : x13_3 < (a0.size : Int)
                      · rw [if_pos c60] at H
                        have c60b0 : decide (x13_3 < (a0.size : Int)) = true := decide_eq_true c60
                        clear c60
                        by_cases c61 : 0 ≤ x13_3
                        · rw [if_pos c61] at H
                          have c61b0 : decide (0 ≤ x13_3) = true := decide_eq_true c61
                          clear c61
                          replace H := Option.bind_eq_some_iff.mp H
                          obtain ⟨t279, A630, H⟩ := H
                          replace H : (if t279 = 1 then (if x13_3 < (x5_3.length : Int) then (abugidaref07_Directions.l4 k3 a0 t262 (x5_3.set (x13_3 : Int).toNat t262) (wrap64 (x13_3 + 1))) else (none)) else (abugidaref07_Directions.l4 k3 a0 t262 x5_3 (wrap64 (x13_3 + 1)))) = some r := H
                          have A63 := Aside0.mk A630
                          clear A630
                          by_cases c64 : t279 = 1
                          · rw [if_pos c64] at H
                            have c64b0 : (t279 == 1) = true := beq_iff_eq.mpr c64
                            have c64b1 : (t279 != 1) = false := bne_eq_false_iff_eq.mpr c64
                            clear c64
                            by_cases c65 : x13_3 < (x5_3.length : Int)
                            · rw [if_pos c65] at H
                              have c65b0 : decide (x13_3 < (x5_3.length : Int)) = true := decide_eq_true c65
                              clear c65
                              obtain ⟨y280, hy280⟩ : ∃ y_ : List Int, y_ = (x5_3.set (x13_3 : Int).toNat t262) := ⟨_, rfl⟩
                              replace H : (abugidaref07_Directions.l4 k3 a0 t262 y280 (wrap64 (x13_3 + 1))) = some r := by first | (rw [hy280]; with_reducible exact H) | (have H2_ := (Option.bind_some _ _).symm.trans H; rw [hy280]; with_reducible exact H2_) | (have H2_ := (Option.bind_some _ _).symm.trans H; with_reducible exact H2_) | with_reducible exact H | (rw [hy280]; exact H) | exact H
                              have Ny280 := Aside0.mk hy280
                              clear hy280
                              have H' := Aside0.mk H
                              clear H
                              have p62 : 0 ≤ (x13_3 : Int) := of_decide_eq_true (by first | (with_reducible assumption) | assumption)
                              have q62 : x13_3 < (a0.size : Int) := of_decide_eq_true (by first | (with_reducible assumption) | assumption)
                              have hx62 := bt_at a0 x13_3
                              replace p62 := eq_true p62
                              replace q62 := eq_true q62
                              go_wp2_with (first | ((with_reducible refine gate_callee (f := 22) rfl ?_); refine goesL_ (some 124) rfl rfl Try.func22 (by kernel_rfl) rfl #[.int .i64 (wrap64 (bt a0 x13_3))] rfl (by (try simp only [List.map_toArray, List.map_cons, List.map_nil]); first | done | rfl | (simp only [List.length_drop, List.length_take]; rfl)) ?_; (with_reducible refine (abugidaref05_Class.calls k3 (wrap64 (bt a0 x13_3)) t279 _ A63.out).mono ?_); rintro e w' ⟨rfl, ⟨nd, rfl⟩⟩; refine ⟨_, rfl, ?_⟩; (try (rw [drewN_self wr]; generalize hq_ : World.drewN wr _ = wr; have n0_ : Aside0 (Kd.R (Kd.int .i64) 3 wr w.heap.size (fun _ => True) v264 x5_3) := ⟨by rw [← hq_]; exact (by (with_reducible repeat (first | apply Kd.R_alloc | apply Kd.R_drewN | apply Kd.R_drew)); exact HO_5.out)⟩; have n1_ : Aside0 (Below w.heap.size w wr) := ⟨by rw [← hq_]; exact (by repeat (first | (with_reducible first | exact HB.out | apply below_alloc | apply pw_below_drewN | apply below_drew1) | exact HB.out))⟩; clear HO_5 HB hq_; have HO_5 := n0_; have HB := n1_; clear n0_ n1_)); have p66 : 0 ≤ (x13_3 : Int) := of_decide_eq_true (by first | (with_reducible assumption) | assumption); have q66 : (x13_3 : Int) < ((x5_3.length : Int) : Int) := of_decide_eq_true (by first | (with_reducible assumption) | assumption); obtain ⟨go66, co66, eo66, gb66, gl66, cl66, HG66⟩ := Kd.R_form HO_5.out (by omega); (first | cases eo66 | (injection eo66 with ea_ en_ ec_; (first | subst ea_ | (injection ea_ with ea_; subst ea_)); subst ec_; clear en_)); have GB66 := Aside0.mk gb66; have GG66 := Aside0.mk HG66; clear gb66 gl66 HG66; obtain ⟨hx66_0, hf66_0⟩ := Kd.R_celln 0 HO_5.out (x13_3 : Int) p66 q66; replace p66 := eq_true p66; replace q66 := eq_true q66; obtain ⟨hy67_, hz67_⟩ := Kd.R_celln 0 HO_5.out (x13_3 : Int) (of_decide_eq_true (by first | (with_reducible assumption) | assumption)) (of_decide_eq_true (by first | (with_reducible assumption) | assumption)); have HP67 := Kd.R_putg HO_5.out (x13_3 : Int) t262) | ((with_reducible refine gate_store (t := 3) (p := 129) rfl ?_); refine store_event (t := 3) (p := 129) (v := ?vo_w68) (w1 := (wr.setCell ⟨go66, (x13_3 : Int).toNat, none⟩ (.int .i64 t262))) ?hg ?ho ?hn ?hr ?_; (case ho => rfl); (case hg => rfl); (case hn => rfl); (case hr => first | (go_simp; done) | (go_simp; rfl)); intro w68 hw; have hg : wr.grownBy w68 (some go66) := (by rw [hw]; exact HP67.2); have hp_ : Kd.R (Kd.int .i64) 3 w68 w.heap.size (fun _ => True) (.slice (some ⟨go66, 0, none⟩) x5_3.length co66) y280 := (by rw [hw, Ny280.out]; exact HP67.1); clear HP67; have n0_ := Aside0.mk (hp_); have n1_ := Aside0.mk ((by rw [hw]; exact below_set (HB.out) GB66.out : Below w.heap.size w w68)); clear HO_5; clear HB; have HO_5 := n0_; have HB := n1_; clear n0_ n1_; clear hg hw hp_))
                              go_roundg k3
                              case measure => have := HK1.out; have := HK2.out; have := HK3.out; omega
                              case rel => exact ⟨(y280), (wrap64 (x13_3 + 1)), (by first | rfl | (simp; done) | (simp [*]; done)), H', ⟨by have := HK1.out; have := HK2.out; have := HK3.out; omega⟩, ⟨by (with_reducible repeat (first | apply Kd.R_alloc | apply Kd.R_drewN | apply Kd.R_drew)); exact HO_5.out⟩, ⟨by repeat (first | (with_reducible first | exact HB.out | apply below_alloc | apply pw_below_drewN | apply below_drew1) | exact HB.out)⟩⟩
                            · rw [if_neg c65] at H
                              exact absurd H (by simp)
                          · rw [if_neg c64] at H
                            have c64b0 : (t279 == 1) = false := beq_eq_false_iff_ne.mpr c64
                            have c64b1 : (t279 != 1) = true := bne_iff_ne.mpr c64
                            have H' := Aside0.mk H
                            clear H
                            have p62 : 0 ≤ (x13_3 : Int) := of_decide_eq_true (by first | (with_reducible assumption) | assumption)
                            have q62 : x13_3 < (a0.size : Int) := of_decide_eq_true (by first | (with_reducible assumption) | assumption)
                            have hx62 := bt_at a0 x13_3
                            replace p62 := eq_true p62
                            replace q62 := eq_true q62
                            go_wp2_with (first | ((with_reducible refine gate_callee (f := 22) rfl ?_); refine goesL_ (some 124) rfl rfl Try.func22 (by kernel_rfl) rfl #[.int .i64 (wrap64 (bt a0 x13_3))] rfl (by (try simp only [List.map_toArray, List.map_cons, List.map_nil]); first | done | rfl | (simp only [List.length_drop, List.length_take]; rfl)) ?_; (with_reducible refine (abugidaref05_Class.calls k3 (wrap64 (bt a0 x13_3)) t279 _ A63.out).mono ?_); rintro e w' ⟨rfl, ⟨nd, rfl⟩⟩; refine ⟨_, rfl, ?_⟩))
                            go_roundg k3
                            case measure => have := HK1.out; have := HK2.out; have := HK3.out; omega
                            case rel => exact ⟨(x5_3), (wrap64 (x13_3 + 1)), (by first | rfl | (simp; done) | (simp [*]; done)), H', ⟨by have := HK1.out; have := HK2.out; have := HK3.out; omega⟩, ⟨by (with_reducible repeat (first | apply Kd.R_alloc | apply Kd.R_drewN | apply Kd.R_drew)); exact HO_5.out⟩, ⟨by repeat (first | (with_reducible first | exact HB.out | apply below_alloc | apply pw_below_drewN | apply below_drew1) | exact HB.out)⟩⟩
                        · rw [if_neg c61] at H
                          exact absurd H (by simp)
                      · rw [if_neg c60] at H
                        have c60b0 : decide (x13_3 < (a0.size : Int)) = false := decide_eq_false c60
                        clear c60
                        obtain rfl := Option.some.inj H
                        go_wp2
                        go_ret
                        exact ⟨_, by first | rfl | (simp [errW_none, errW_some] <;> rfl) | (simp [*, errW_none, errW_some] <;> rfl), by (with_reducible repeat (first | apply Kd.R_alloc | apply Kd.R_drewN | apply Kd.R_drew)); exact HO_5.out, by repeat (first | (with_reducible first | exact HB.out | apply below_alloc | apply pw_below_drewN | apply below_drew1) | exact HB.out)⟩
    · rw [if_neg c5] at H
      exact absurd H (by simp)
  · rw [if_neg c4] at H
    exact absurd H (by simp)

end Go.Proofs.Ytacnckneiklgpaa.Q

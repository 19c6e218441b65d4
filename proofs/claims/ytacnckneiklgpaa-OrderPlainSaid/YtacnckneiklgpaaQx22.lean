-- Written by wip/tools/myprint.py, a program of this session that drives the kit's print.py; not a text of print.sh.
import Derived.Test.YtacnckneiklgpaaQx0
import Derived.Test.YtacnckneiklgpaaQx3
import Derived.Test.YtacnckneiklgpaaQx9
import Derived.Test.YtacnckneiklgpaaQx14
import Derived.Test.YtacnckneiklgpaaQx15
import Derived.Test.YtacnckneiklgpaaQx21
namespace Go.Proofs.Ytacnckneiklgpaa.Q
open Go.RowKit Go.Proofs.YtacnckneiklgpaaW.PrintWords Go.Proofs.YtacnckneiklgpaaW.PrintLast Go.Proofs.YtacnckneiklgpaaW.PrintMore
attribute [local go_sem] max2_int min2_int max_two min_two max_three min_three max_four min_four   -- for this text's walks alone
set_option linter.unusedVariables false
set_option linter.unusedSimpArgs false

/-! ### abugidalaw07_OrderPlain: function 4 -/
mutual
def abugidalaw07_OrderPlain.l0 : Nat → ByteArray → Bool → ByteArray → ByteArray → ByteArray → Int → Option (Bool)
  | 0, _, _, _, _, _, _ => none
  | k + 1, x0, x3, x4, x5, x6, x7 => if x7 < (x0.size : Int) then (if 0 ≤ x7 then ((abugidaref05_Strong.f k (wrap64 (bt x0 x7))).bind fun t378 => (if t378 = 2 then (abugidalaw07_OrderPlain.j1 k x0 x3 x4 x5 x6 x7 (wrap64 (bt x0 x7)) t378) else (if x7 ≤ (wrap64 (x7 + 1)) then (if (wrap64 (x7 + 1)) ≤ (x0.size : Int) then (if x4.size + (x0.extract (x7 : Int).toNat ((wrap64 (x7 + 1)) : Int).toNat).size ≤ 9223372036854775807 then (abugidalaw07_OrderPlain.j1 k x0 x3 (x4 ++ (x0.extract (x7 : Int).toNat ((wrap64 (x7 + 1)) : Int).toNat)) x5 x6 x7 (wrap64 (bt x0 x7)) t378) else (none)) else (none)) else (none)))) else (none)) else (abugidalaw07_OrderPlain.l2 k x0 x3 x4 x5 x6 false 0)
def abugidalaw07_OrderPlain.j1 : Nat → ByteArray → Bool → ByteArray → ByteArray → ByteArray → Int → Int → Int → Option (Bool)
  | 0, _, _, _, _, _, _, _, _ => none
  | k + 1, x0, x3, x4, x5, x6, x7, x8, x9 => if x9 = 1 then (abugidalaw07_OrderPlain.j2 k x0 x3 x4 x5 x6 x7 x8 false) else (abugidalaw07_OrderPlain.j2 k x0 x3 x4 x5 x6 x7 x8 (x9 != 3))
def abugidalaw07_OrderPlain.j2 : Nat → ByteArray → Bool → ByteArray → ByteArray → ByteArray → Int → Int → Bool → Option (Bool)
  | 0, _, _, _, _, _, _, _, _ => none
  | k + 1, x0, x3, x4, x5, x6, x7, x8, x48 => if x48 = true then (if 0 ≤ x7 then (if x7 ≤ (wrap64 (x7 + 1)) then (if (wrap64 (x7 + 1)) ≤ (x0.size : Int) then (if x5.size + (x0.extract (x7 : Int).toNat ((wrap64 (x7 + 1)) : Int).toNat).size ≤ 9223372036854775807 then (abugidalaw07_OrderPlain.j3 k x0 x3 x4 (x5 ++ (x0.extract (x7 : Int).toNat ((wrap64 (x7 + 1)) : Int).toNat)) x6 x7 x8) else (none)) else (none)) else (none)) else (none)) else (abugidalaw07_OrderPlain.j3 k x0 x3 x4 x5 x6 x7 x8)
def abugidalaw07_OrderPlain.j3 : Nat → ByteArray → Bool → ByteArray → ByteArray → ByteArray → Int → Int → Option (Bool)
  | 0, _, _, _, _, _, _, _ => none
  | k + 1, x0, x3, x4, x5, x6, x7, x8 => (abugidaref05_Script.f x8).bind fun t379 => ((abugidaref05_Codes.f k t379).bind fun t380 => (abugidalaw07_OrderPlain.l1 k x0 x3 x4 x5 x6 x7 x8 x8 t380 (t380.length : Int) 0))
def abugidalaw07_OrderPlain.l1 : Nat → ByteArray → Bool → ByteArray → ByteArray → ByteArray → Int → Int → Int → List Int → Int → Int → Option (Bool)
  | 0, _, _, _, _, _, _, _, _, _, _, _ => none
  | k + 1, x0, x3, x4, x5, x6, x7, x8, x10, x59, x60, x61 => if x61 < x60 then (if 0 ≤ x61 then (if x61 < (x59.length : Int) then ((abugidaref05_Class.f k (rd x59 x61)).bind fun t387 => ((abugidaref05_Class.f k x8).bind fun t388 => (if t387 = t388 then (abugidalaw07_OrderPlain.l1 k x0 x3 x4 x5 x6 x7 x8 (rd x59 x61) x59 x60 (wrap64 (x61 + 1))) else (abugidalaw07_OrderPlain.l1 k x0 x3 x4 x5 x6 x7 x8 x10 x59 x60 (wrap64 (x61 + 1)))))) else (none)) else (none)) else ((some (([(x10) % 256] : List Int) : List Int)).bind fun y383 => (if x6.size + (strOfNums y383).size ≤ 9223372036854775807 then (abugidalaw07_OrderPlain.l0 k x0 x3 x4 x5 (x6 ++ (strOfNums y383)) (wrap64 (x7 + 1))) else (none)))
def abugidalaw07_OrderPlain.l2 : Nat → ByteArray → Bool → ByteArray → ByteArray → ByteArray → Bool → Int → Option (Bool)
  | 0, _, _, _, _, _, _, _ => none
  | k + 1, x0, x3, x4, x5, x6, x13, x14 => if x14 < (x5.size : Int) then (if x13 = true then (abugidalaw07_OrderPlain.l2 k x0 x3 x4 x5 x6 true (wrap64 (x14 + 1))) else (if 0 ≤ x14 then ((abugidaref05_Strong.f k (wrap64 (bt x5 x14))).bind fun t389 => (abugidalaw07_OrderPlain.l2 k x0 x3 x4 x5 x6 (t389 == 2) (wrap64 (x14 + 1)))) else (none))) else ((order_Levels.f x4).bind fun t390 => (abugidalaw07_OrderPlain.l3 k x0 x3 x4 x5 x6 x13 t390 (t390.length : Int) 0))
def abugidalaw07_OrderPlain.l3 : Nat → ByteArray → Bool → ByteArray → ByteArray → ByteArray → Bool → List Int → Int → Int → Option (Bool)
  | 0, _, _, _, _, _, _, _, _, _ => none
  | k + 1, x0, x3, x4, x5, x6, x13, x94, x95, x96 => if x96 < x95 then (if 0 ≤ x96 then (if x96 < (x94.length : Int) then (if (rd x94 x96) = 0 then (abugidalaw07_OrderPlain.l3 k x0 x3 x4 x5 x6 x13 x94 x95 (wrap64 (x96 + 1))) else (some false)) else (none)) else (none)) else ((order_Levels.f x5).bind fun t394 => (abugidalaw07_OrderPlain.l4 k x0 x3 x4 x5 x6 x13 t394 (t394.length : Int) 0))
def abugidalaw07_OrderPlain.l4 : Nat → ByteArray → Bool → ByteArray → ByteArray → ByteArray → Bool → List Int → Int → Int → Option (Bool)
  | 0, _, _, _, _, _, _, _, _, _ => none
  | k + 1, x0, x3, x4, x5, x6, x13, x104, x105, x106 => if x106 < x105 then (if 0 ≤ x106 then (if x106 < (x104.length : Int) then (if (x13 != ((rd x104 x106) == 1)) = true then (some false) else (abugidalaw07_OrderPlain.l4 k x0 x3 x4 x5 x6 x13 x104 x105 (wrap64 (x106 + 1)))) else (none)) else (none)) else (if x3 = true then ((order_Right.f x4).bind fun t398 => (if t398 = true then (some false) else ((order_Right.f x5).bind fun t399 => (if (t399 == x13) = true then ((order_Levels.f x6).bind fun t400 => ((order_Levels.f x0).bind fun t403 => ((abugidaref07_Equal.f k t400 t403).bind fun t406 => (some t406)))) else (some false))))) else (some false))
end
def abugidalaw07_OrderPlain.f (k : Nat) (a0 : ByteArray) : Option (Bool) := (abugidalaw07_sanity.f k).bind fun t376 => ((abugidalaw07_short.f a0).bind fun t377 => (abugidalaw07_OrderPlain.l0 k t377 t376 (⟨#[]⟩ : ByteArray) (⟨#[]⟩ : ByteArray) (⟨#[]⟩ : ByteArray) 0))
theorem abugidalaw07_OrderPlain.mono_l : ∀ k, (∀ y0 y1 y2 y3 y4 y5, LeO (abugidalaw07_OrderPlain.l0 k y0 y1 y2 y3 y4 y5) (abugidalaw07_OrderPlain.l0 (k + 1) y0 y1 y2 y3 y4 y5)) ∧ (∀ y0 y1 y2 y3 y4 y5 y6 y7, LeO (abugidalaw07_OrderPlain.j1 k y0 y1 y2 y3 y4 y5 y6 y7) (abugidalaw07_OrderPlain.j1 (k + 1) y0 y1 y2 y3 y4 y5 y6 y7)) ∧ (∀ y0 y1 y2 y3 y4 y5 y6 y7, LeO (abugidalaw07_OrderPlain.j2 k y0 y1 y2 y3 y4 y5 y6 y7) (abugidalaw07_OrderPlain.j2 (k + 1) y0 y1 y2 y3 y4 y5 y6 y7)) ∧ (∀ y0 y1 y2 y3 y4 y5 y6, LeO (abugidalaw07_OrderPlain.j3 k y0 y1 y2 y3 y4 y5 y6) (abugidalaw07_OrderPlain.j3 (k + 1) y0 y1 y2 y3 y4 y5 y6)) ∧ (∀ y0 y1 y2 y3 y4 y5 y6 y7 y8 y9 y10, LeO (abugidalaw07_OrderPlain.l1 k y0 y1 y2 y3 y4 y5 y6 y7 y8 y9 y10) (abugidalaw07_OrderPlain.l1 (k + 1) y0 y1 y2 y3 y4 y5 y6 y7 y8 y9 y10)) ∧ (∀ y0 y1 y2 y3 y4 y5 y6, LeO (abugidalaw07_OrderPlain.l2 k y0 y1 y2 y3 y4 y5 y6) (abugidalaw07_OrderPlain.l2 (k + 1) y0 y1 y2 y3 y4 y5 y6)) ∧ (∀ y0 y1 y2 y3 y4 y5 y6 y7 y8, LeO (abugidalaw07_OrderPlain.l3 k y0 y1 y2 y3 y4 y5 y6 y7 y8) (abugidalaw07_OrderPlain.l3 (k + 1) y0 y1 y2 y3 y4 y5 y6 y7 y8)) ∧ (∀ y0 y1 y2 y3 y4 y5 y6 y7 y8, LeO (abugidalaw07_OrderPlain.l4 k y0 y1 y2 y3 y4 y5 y6 y7 y8) (abugidalaw07_OrderPlain.l4 (k + 1) y0 y1 y2 y3 y4 y5 y6 y7 y8))
  | 0 => ⟨fun _ _ _ _ _ _ r h => by simp [abugidalaw07_OrderPlain.l0] at h, fun _ _ _ _ _ _ _ _ r h => by simp [abugidalaw07_OrderPlain.j1] at h, fun _ _ _ _ _ _ _ _ r h => by simp [abugidalaw07_OrderPlain.j2] at h, fun _ _ _ _ _ _ _ r h => by simp [abugidalaw07_OrderPlain.j3] at h, fun _ _ _ _ _ _ _ _ _ _ _ r h => by simp [abugidalaw07_OrderPlain.l1] at h, fun _ _ _ _ _ _ _ r h => by simp [abugidalaw07_OrderPlain.l2] at h, fun _ _ _ _ _ _ _ _ _ r h => by simp [abugidalaw07_OrderPlain.l3] at h, fun _ _ _ _ _ _ _ _ _ r h => by simp [abugidalaw07_OrderPlain.l4] at h⟩
  | k + 1 => by
    obtain ⟨ih0, ih1, ih2, ih3, ih4, ih5, ih6, ih7⟩ := abugidalaw07_OrderPlain.mono_l k
    refine ⟨?_, ?_, ?_, ?_, ?_, ?_, ?_, ?_⟩
    · intro y0 y1 y2 y3 y4 y5
      unfold abugidalaw07_OrderPlain.l0
      repeat' first
      | (with_reducible exact ih0 _ _ _ _ _ _)
      | (with_reducible exact ih1 _ _ _ _ _ _ _ _)
      | (with_reducible exact ih2 _ _ _ _ _ _ _ _)
      | (with_reducible exact ih3 _ _ _ _ _ _ _)
      | (with_reducible exact ih4 _ _ _ _ _ _ _ _ _ _ _)
      | (with_reducible exact ih5 _ _ _ _ _ _ _)
      | (with_reducible exact ih6 _ _ _ _ _ _ _ _ _)
      | (with_reducible exact ih7 _ _ _ _ _ _ _ _ _)
      | (with_reducible exact abugidalaw07_sanity.mono _)
      | (with_reducible exact abugidaref05_Class.mono _ _)
      | (with_reducible exact abugidaref05_Codes.mono _ _)
      | (with_reducible exact abugidaref05_Strong.mono _ _)
      | (with_reducible exact abugidaref07_Equal.mono _ _ _)
      | (with_reducible exact LeO.refl _)
      | (with_reducible exact LeO.none _)
      | (with_reducible refine LeO.ite ?_ ?_)
      | (with_reducible refine LeO.bind ?_ (fun _ => ?_))
      | exact ih0 _ _ _ _ _ _
      | exact ih1 _ _ _ _ _ _ _ _
      | exact ih2 _ _ _ _ _ _ _ _
      | exact ih3 _ _ _ _ _ _ _
      | exact ih4 _ _ _ _ _ _ _ _ _ _ _
      | exact ih5 _ _ _ _ _ _ _
      | exact ih6 _ _ _ _ _ _ _ _ _
      | exact ih7 _ _ _ _ _ _ _ _ _
      | exact abugidalaw07_sanity.mono _
      | exact abugidaref05_Class.mono _ _
      | exact abugidaref05_Codes.mono _ _
      | exact abugidaref05_Strong.mono _ _
      | exact abugidaref07_Equal.mono _ _ _
      | exact LeO.none _
      | refine LeO.ite ?_ ?_
      | refine LeO.bind ?_ (fun _ => ?_)
    · intro y0 y1 y2 y3 y4 y5 y6 y7
      unfold abugidalaw07_OrderPlain.j1
      repeat' first
      | (with_reducible exact ih0 _ _ _ _ _ _)
      | (with_reducible exact ih1 _ _ _ _ _ _ _ _)
      | (with_reducible exact ih2 _ _ _ _ _ _ _ _)
      | (with_reducible exact ih3 _ _ _ _ _ _ _)
      | (with_reducible exact ih4 _ _ _ _ _ _ _ _ _ _ _)
      | (with_reducible exact ih5 _ _ _ _ _ _ _)
      | (with_reducible exact ih6 _ _ _ _ _ _ _ _ _)
      | (with_reducible exact ih7 _ _ _ _ _ _ _ _ _)
      | (with_reducible exact abugidalaw07_sanity.mono _)
      | (with_reducible exact abugidaref05_Class.mono _ _)
      | (with_reducible exact abugidaref05_Codes.mono _ _)
      | (with_reducible exact abugidaref05_Strong.mono _ _)
      | (with_reducible exact abugidaref07_Equal.mono _ _ _)
      | (with_reducible exact LeO.refl _)
      | (with_reducible exact LeO.none _)
      | (with_reducible refine LeO.ite ?_ ?_)
      | (with_reducible refine LeO.bind ?_ (fun _ => ?_))
      | exact ih0 _ _ _ _ _ _
      | exact ih1 _ _ _ _ _ _ _ _
      | exact ih2 _ _ _ _ _ _ _ _
      | exact ih3 _ _ _ _ _ _ _
      | exact ih4 _ _ _ _ _ _ _ _ _ _ _
      | exact ih5 _ _ _ _ _ _ _
      | exact ih6 _ _ _ _ _ _ _ _ _
      | exact ih7 _ _ _ _ _ _ _ _ _
      | exact abugidalaw07_sanity.mono _
      | exact abugidaref05_Class.mono _ _
      | exact abugidaref05_Codes.mono _ _
      | exact abugidaref05_Strong.mono _ _
      | exact abugidaref07_Equal.mono _ _ _
      | exact LeO.none _
      | refine LeO.ite ?_ ?_
      | refine LeO.bind ?_ (fun _ => ?_)
    · intro y0 y1 y2 y3 y4 y5 y6 y7
      unfold abugidalaw07_OrderPlain.j2
      repeat' first
      | (with_reducible exact ih0 _ _ _ _ _ _)
      | (with_reducible exact ih1 _ _ _ _ _ _ _ _)
      | (with_reducible exact ih2 _ _ _ _ _ _ _ _)
      | (with_reducible exact ih3 _ _ _ _ _ _ _)
      | (with_reducible exact ih4 _ _ _ _ _ _ _ _ _ _ _)
      | (with_reducible exact ih5 _ _ _ _ _ _ _)
      | (with_reducible exact ih6 _ _ _ _ _ _ _ _ _)
      | (with_reducible exact ih7 _ _ _ _ _ _ _ _ _)
      | (with_reducible exact abugidalaw07_sanity.mono _)
      | (with_reducible exact abugidaref05_Class.mono _ _)
      | (with_reducible exact abugidaref05_Codes.mono _ _)
      | (with_reducible exact abugidaref05_Strong.mono _ _)
      | (with_reducible exact abugidaref07_Equal.mono _ _ _)
      | (with_reducible exact LeO.refl _)
      | (with_reducible exact LeO.none _)
      | (with_reducible refine LeO.ite ?_ ?_)
      | (with_reducible refine LeO.bind ?_ (fun _ => ?_))
      | exact ih0 _ _ _ _ _ _
      | exact ih1 _ _ _ _ _ _ _ _
      | exact ih2 _ _ _ _ _ _ _ _
      | exact ih3 _ _ _ _ _ _ _
      | exact ih4 _ _ _ _ _ _ _ _ _ _ _
      | exact ih5 _ _ _ _ _ _ _
      | exact ih6 _ _ _ _ _ _ _ _ _
      | exact ih7 _ _ _ _ _ _ _ _ _
      | exact abugidalaw07_sanity.mono _
      | exact abugidaref05_Class.mono _ _
      | exact abugidaref05_Codes.mono _ _
      | exact abugidaref05_Strong.mono _ _
      | exact abugidaref07_Equal.mono _ _ _
      | exact LeO.none _
      | refine LeO.ite ?_ ?_
      | refine LeO.bind ?_ (fun _ => ?_)
    · intro y0 y1 y2 y3 y4 y5 y6
      unfold abugidalaw07_OrderPlain.j3
      repeat' first
      | (with_reducible exact ih0 _ _ _ _ _ _)
      | (with_reducible exact ih1 _ _ _ _ _ _ _ _)
      | (with_reducible exact ih2 _ _ _ _ _ _ _ _)
      | (with_reducible exact ih3 _ _ _ _ _ _ _)
      | (with_reducible exact ih4 _ _ _ _ _ _ _ _ _ _ _)
      | (with_reducible exact ih5 _ _ _ _ _ _ _)
      | (with_reducible exact ih6 _ _ _ _ _ _ _ _ _)
      | (with_reducible exact ih7 _ _ _ _ _ _ _ _ _)
      | (with_reducible exact abugidalaw07_sanity.mono _)
      | (with_reducible exact abugidaref05_Class.mono _ _)
      | (with_reducible exact abugidaref05_Codes.mono _ _)
      | (with_reducible exact abugidaref05_Strong.mono _ _)
      | (with_reducible exact abugidaref07_Equal.mono _ _ _)
      | (with_reducible exact LeO.refl _)
      | (with_reducible exact LeO.none _)
      | (with_reducible refine LeO.ite ?_ ?_)
      | (with_reducible refine LeO.bind ?_ (fun _ => ?_))
      | exact ih0 _ _ _ _ _ _
      | exact ih1 _ _ _ _ _ _ _ _
      | exact ih2 _ _ _ _ _ _ _ _
      | exact ih3 _ _ _ _ _ _ _
      | exact ih4 _ _ _ _ _ _ _ _ _ _ _
      | exact ih5 _ _ _ _ _ _ _
      | exact ih6 _ _ _ _ _ _ _ _ _
      | exact ih7 _ _ _ _ _ _ _ _ _
      | exact abugidalaw07_sanity.mono _
      | exact abugidaref05_Class.mono _ _
      | exact abugidaref05_Codes.mono _ _
      | exact abugidaref05_Strong.mono _ _
      | exact abugidaref07_Equal.mono _ _ _
      | exact LeO.none _
      | refine LeO.ite ?_ ?_
      | refine LeO.bind ?_ (fun _ => ?_)
    · intro y0 y1 y2 y3 y4 y5 y6 y7 y8 y9 y10
      unfold abugidalaw07_OrderPlain.l1
      repeat' first
      | (with_reducible exact ih0 _ _ _ _ _ _)
      | (with_reducible exact ih1 _ _ _ _ _ _ _ _)
      | (with_reducible exact ih2 _ _ _ _ _ _ _ _)
      | (with_reducible exact ih3 _ _ _ _ _ _ _)
      | (with_reducible exact ih4 _ _ _ _ _ _ _ _ _ _ _)
      | (with_reducible exact ih5 _ _ _ _ _ _ _)
      | (with_reducible exact ih6 _ _ _ _ _ _ _ _ _)
      | (with_reducible exact ih7 _ _ _ _ _ _ _ _ _)
      | (with_reducible exact abugidalaw07_sanity.mono _)
      | (with_reducible exact abugidaref05_Class.mono _ _)
      | (with_reducible exact abugidaref05_Codes.mono _ _)
      | (with_reducible exact abugidaref05_Strong.mono _ _)
      | (with_reducible exact abugidaref07_Equal.mono _ _ _)
      | (with_reducible exact LeO.refl _)
      | (with_reducible exact LeO.none _)
      | (with_reducible refine LeO.ite ?_ ?_)
      | (with_reducible refine LeO.bind ?_ (fun _ => ?_))
      | exact ih0 _ _ _ _ _ _
      | exact ih1 _ _ _ _ _ _ _ _
      | exact ih2 _ _ _ _ _ _ _ _
      | exact ih3 _ _ _ _ _ _ _
      | exact ih4 _ _ _ _ _ _ _ _ _ _ _
      | exact ih5 _ _ _ _ _ _ _
      | exact ih6 _ _ _ _ _ _ _ _ _
      | exact ih7 _ _ _ _ _ _ _ _ _
      | exact abugidalaw07_sanity.mono _
      | exact abugidaref05_Class.mono _ _
      | exact abugidaref05_Codes.mono _ _
      | exact abugidaref05_Strong.mono _ _
      | exact abugidaref07_Equal.mono _ _ _
      | exact LeO.none _
      | refine LeO.ite ?_ ?_
      | refine LeO.bind ?_ (fun _ => ?_)
    · intro y0 y1 y2 y3 y4 y5 y6
      unfold abugidalaw07_OrderPlain.l2
      repeat' first
      | (with_reducible exact ih0 _ _ _ _ _ _)
      | (with_reducible exact ih1 _ _ _ _ _ _ _ _)
      | (with_reducible exact ih2 _ _ _ _ _ _ _ _)
      | (with_reducible exact ih3 _ _ _ _ _ _ _)
      | (with_reducible exact ih4 _ _ _ _ _ _ _ _ _ _ _)
      | (with_reducible exact ih5 _ _ _ _ _ _ _)
      | (with_reducible exact ih6 _ _ _ _ _ _ _ _ _)
      | (with_reducible exact ih7 _ _ _ _ _ _ _ _ _)
      | (with_reducible exact abugidalaw07_sanity.mono _)
      | (with_reducible exact abugidaref05_Class.mono _ _)
      | (with_reducible exact abugidaref05_Codes.mono _ _)
      | (with_reducible exact abugidaref05_Strong.mono _ _)
      | (with_reducible exact abugidaref07_Equal.mono _ _ _)
      | (with_reducible exact LeO.refl _)
      | (with_reducible exact LeO.none _)
      | (with_reducible refine LeO.ite ?_ ?_)
      | (with_reducible refine LeO.bind ?_ (fun _ => ?_))
      | exact ih0 _ _ _ _ _ _
      | exact ih1 _ _ _ _ _ _ _ _
      | exact ih2 _ _ _ _ _ _ _ _
      | exact ih3 _ _ _ _ _ _ _
      | exact ih4 _ _ _ _ _ _ _ _ _ _ _
      | exact ih5 _ _ _ _ _ _ _
      | exact ih6 _ _ _ _ _ _ _ _ _
      | exact ih7 _ _ _ _ _ _ _ _ _
      | exact abugidalaw07_sanity.mono _
      | exact abugidaref05_Class.mono _ _
      | exact abugidaref05_Codes.mono _ _
      | exact abugidaref05_Strong.mono _ _
      | exact abugidaref07_Equal.mono _ _ _
      | exact LeO.none _
      | refine LeO.ite ?_ ?_
      | refine LeO.bind ?_ (fun _ => ?_)
    · intro y0 y1 y2 y3 y4 y5 y6 y7 y8
      unfold abugidalaw07_OrderPlain.l3
      repeat' first
      | (with_reducible exact ih0 _ _ _ _ _ _)
      | (with_reducible exact ih1 _ _ _ _ _ _ _ _)
      | (with_reducible exact ih2 _ _ _ _ _ _ _ _)
      | (with_reducible exact ih3 _ _ _ _ _ _ _)
      | (with_reducible exact ih4 _ _ _ _ _ _ _ _ _ _ _)
      | (with_reducible exact ih5 _ _ _ _ _ _ _)
      | (with_reducible exact ih6 _ _ _ _ _ _ _ _ _)
      | (with_reducible exact ih7 _ _ _ _ _ _ _ _ _)
      | (with_reducible exact abugidalaw07_sanity.mono _)
      | (with_reducible exact abugidaref05_Class.mono _ _)
      | (with_reducible exact abugidaref05_Codes.mono _ _)
      | (with_reducible exact abugidaref05_Strong.mono _ _)
      | (with_reducible exact abugidaref07_Equal.mono _ _ _)
      | (with_reducible exact LeO.refl _)
      | (with_reducible exact LeO.none _)
      | (with_reducible refine LeO.ite ?_ ?_)
      | (with_reducible refine LeO.bind ?_ (fun _ => ?_))
      | exact ih0 _ _ _ _ _ _
      | exact ih1 _ _ _ _ _ _ _ _
      | exact ih2 _ _ _ _ _ _ _ _
      | exact ih3 _ _ _ _ _ _ _
      | exact ih4 _ _ _ _ _ _ _ _ _ _ _
      | exact ih5 _ _ _ _ _ _ _
      | exact ih6 _ _ _ _ _ _ _ _ _
      | exact ih7 _ _ _ _ _ _ _ _ _
      | exact abugidalaw07_sanity.mono _
      | exact abugidaref05_Class.mono _ _
      | exact abugidaref05_Codes.mono _ _
      | exact abugidaref05_Strong.mono _ _
      | exact abugidaref07_Equal.mono _ _ _
      | exact LeO.none _
      | refine LeO.ite ?_ ?_
      | refine LeO.bind ?_ (fun _ => ?_)
    · intro y0 y1 y2 y3 y4 y5 y6 y7 y8
      unfold abugidalaw07_OrderPlain.l4
      repeat' first
      | (with_reducible exact ih0 _ _ _ _ _ _)
      | (with_reducible exact ih1 _ _ _ _ _ _ _ _)
      | (with_reducible exact ih2 _ _ _ _ _ _ _ _)
      | (with_reducible exact ih3 _ _ _ _ _ _ _)
      | (with_reducible exact ih4 _ _ _ _ _ _ _ _ _ _ _)
      | (with_reducible exact ih5 _ _ _ _ _ _ _)
      | (with_reducible exact ih6 _ _ _ _ _ _ _ _ _)
      | (with_reducible exact ih7 _ _ _ _ _ _ _ _ _)
      | (with_reducible exact abugidalaw07_sanity.mono _)
      | (with_reducible exact abugidaref05_Class.mono _ _)
      | (with_reducible exact abugidaref05_Codes.mono _ _)
      | (with_reducible exact abugidaref05_Strong.mono _ _)
      | (with_reducible exact abugidaref07_Equal.mono _ _ _)
      | (with_reducible exact LeO.refl _)
      | (with_reducible exact LeO.none _)
      | (with_reducible refine LeO.ite ?_ ?_)
      | (with_reducible refine LeO.bind ?_ (fun _ => ?_))
      | exact ih0 _ _ _ _ _ _
      | exact ih1 _ _ _ _ _ _ _ _
      | exact ih2 _ _ _ _ _ _ _ _
      | exact ih3 _ _ _ _ _ _ _
      | exact ih4 _ _ _ _ _ _ _ _ _ _ _
      | exact ih5 _ _ _ _ _ _ _
      | exact ih6 _ _ _ _ _ _ _ _ _
      | exact ih7 _ _ _ _ _ _ _ _ _
      | exact abugidalaw07_sanity.mono _
      | exact abugidaref05_Class.mono _ _
      | exact abugidaref05_Codes.mono _ _
      | exact abugidaref05_Strong.mono _ _
      | exact abugidaref07_Equal.mono _ _ _
      | exact LeO.none _
      | refine LeO.ite ?_ ?_
      | refine LeO.bind ?_ (fun _ => ?_)
theorem abugidalaw07_OrderPlain.mono : ∀ a0 k, LeO (abugidalaw07_OrderPlain.f k a0) (abugidalaw07_OrderPlain.f (k + 1) a0) := by
  intro a0 k
  obtain ⟨ih0, ih1, ih2, ih3, ih4, ih5, ih6, ih7⟩ := abugidalaw07_OrderPlain.mono_l k
  unfold abugidalaw07_OrderPlain.f
  repeat' first
      | (with_reducible exact ih0 _ _ _ _ _ _)
      | (with_reducible exact ih1 _ _ _ _ _ _ _ _)
      | (with_reducible exact ih2 _ _ _ _ _ _ _ _)
      | (with_reducible exact ih3 _ _ _ _ _ _ _)
      | (with_reducible exact ih4 _ _ _ _ _ _ _ _ _ _ _)
      | (with_reducible exact ih5 _ _ _ _ _ _ _)
      | (with_reducible exact ih6 _ _ _ _ _ _ _ _ _)
      | (with_reducible exact ih7 _ _ _ _ _ _ _ _ _)
      | (with_reducible exact abugidalaw07_sanity.mono _)
      | (with_reducible exact abugidaref05_Class.mono _ _)
      | (with_reducible exact abugidaref05_Codes.mono _ _)
      | (with_reducible exact abugidaref05_Strong.mono _ _)
      | (with_reducible exact abugidaref07_Equal.mono _ _ _)
      | (with_reducible exact LeO.refl _)
      | (with_reducible exact LeO.none _)
      | (with_reducible refine LeO.ite ?_ ?_)
      | (with_reducible refine LeO.bind ?_ (fun _ => ?_))
      | exact ih0 _ _ _ _ _ _
      | exact ih1 _ _ _ _ _ _ _ _
      | exact ih2 _ _ _ _ _ _ _ _
      | exact ih3 _ _ _ _ _ _ _
      | exact ih4 _ _ _ _ _ _ _ _ _ _ _
      | exact ih5 _ _ _ _ _ _ _
      | exact ih6 _ _ _ _ _ _ _ _ _
      | exact ih7 _ _ _ _ _ _ _ _ _
      | exact abugidalaw07_sanity.mono _
      | exact abugidaref05_Class.mono _ _
      | exact abugidaref05_Codes.mono _ _
      | exact abugidaref05_Strong.mono _ _
      | exact abugidaref07_Equal.mono _ _ _
      | exact LeO.none _
      | refine LeO.ite ?_ ?_
      | refine LeO.bind ?_ (fun _ => ?_)
set_option maxHeartbeats 8000000 in
set_option maxRecDepth 100000 in
theorem abugidalaw07_OrderPlain.calls (k : Nat) (a0 : ByteArray) (r : Bool) (w : World) (h : abugidalaw07_OrderPlain.f k a0 = some r) :
    Calls Try.prog 4 #[.string a0] w fun e w' => e = .returned (.bool r) ∧ Below w.heap.size w w' := by
  have HB := Aside0.mk (Below.refl w.heap.size w)
  have H : ((abugidalaw07_sanity.f k).bind fun t376 => ((abugidalaw07_short.f a0).bind fun t377 => (abugidalaw07_OrderPlain.l0 k t377 t376 (⟨#[]⟩ : ByteArray) (⟨#[]⟩ : ByteArray) (⟨#[]⟩ : ByteArray) 0))) = some r := h
  clear h
  replace H := Option.bind_eq_some_iff.mp H
  obtain ⟨t376, A20, H⟩ := H
  replace H : ((abugidalaw07_short.f a0).bind fun t377 => (abugidalaw07_OrderPlain.l0 k t377 t376 (⟨#[]⟩ : ByteArray) (⟨#[]⟩ : ByteArray) (⟨#[]⟩ : ByteArray) 0)) = some r := H
  have A2 := Aside0.mk A20
  clear A20
  replace H := Option.bind_eq_some_iff.mp H
  obtain ⟨t377, A30, H⟩ := H
  replace H : (abugidalaw07_OrderPlain.l0 k t377 t376 (⟨#[]⟩ : ByteArray) (⟨#[]⟩ : ByteArray) (⟨#[]⟩ : ByteArray) 0) = some r := H
  have A3 := Aside0.mk A30
  clear A30
  have H' := Aside0.mk H
  clear H
  go_enter Try.func4, Try.ntmps4
  go_wp2_with (first | ((with_reducible refine gate_callee (f := 9) rfl ?_); refine goesL_ (some 19) rfl rfl Try.func9 (by kernel_rfl) rfl #[] rfl (by (try simp only [List.map_toArray, List.map_cons, List.map_nil]); first | done | rfl | (simp only [List.length_drop, List.length_take]; rfl)) ?_; (with_reducible refine (abugidalaw07_sanity.calls k  t376 _ A2.out).mono ?_); rintro e w4 ⟨rfl, hb⟩; refine ⟨_, rfl, ?_⟩; have n0_ := Aside0.mk (below_step (by repeat (first | (with_reducible first | exact HB.out | apply below_alloc | apply pw_below_drewN | apply below_drew1) | exact HB.out)) hb); clear HB; have HB := n0_; clear n0_; (try clear hb); (try clear hb2); (try clear hk); (try clear hi)) | ((with_reducible refine gate_callee (f := 10) rfl ?_); refine goesL_ (some 21) rfl rfl Try.func10 (by kernel_rfl) rfl #[.string a0] rfl (by (try simp only [List.map_toArray, List.map_cons, List.map_nil]); first | done | rfl | (simp only [List.length_drop, List.length_take]; rfl)) ?_; (with_reducible refine (abugidalaw07_short.calls a0 t377 _ A3.out).mono ?_); rintro e w5 ⟨rfl, hb⟩; refine ⟨_, rfl, ?_⟩; have n0_ := Aside0.mk (below_step (by repeat (first | (with_reducible first | exact HB.out | apply below_alloc | apply pw_below_drewN | apply below_drew1) | exact HB.out)) hb); clear HB; have HB := n0_; clear n0_; (try clear hb); (try clear hb2); (try clear hk); (try clear hi)))
  go_loopg [4, 5, 6, 7] k (fun kq v4 v5 v6 v7 w' => ∃ (x4_1 : ByteArray) (x5_1 : ByteArray) (x6_1 : ByteArray) (x7_1 : Int), v4 = .string x4_1 ∧ v5 = .string x5_1 ∧ v6 = .string x6_1 ∧ v7 = .int .i64 x7_1 ∧ Aside0 (abugidalaw07_OrderPlain.l0 kq t377 t376 x4_1 x5_1 x6_1 x7_1 = some r) ∧ Aside0 (kq ≤ k) ∧ Aside0 (Below w.heap.size w w'))
  case atStart => exact ⟨((⟨#[]⟩ : ByteArray)), ((⟨#[]⟩ : ByteArray)), ((⟨#[]⟩ : ByteArray)), (0), (by first | rfl | (simp; done) | (simp [*]; done)), (by first | rfl | (simp; done) | (simp [*]; done)), (by first | rfl | (simp; done) | (simp [*]; done)), (by first | rfl | (simp; done) | (simp [*]; done)), H', ⟨Nat.le_refl _⟩, ⟨by repeat (first | (with_reducible first | exact HB.out | apply below_alloc | apply pw_below_drewN | apply below_drew1) | exact HB.out)⟩⟩
  case round =>
    clear H'
    try clear c1
    try clear p2
    try clear c4
    obtain ⟨x4_1, x5_1, x6_1, x7_1, rfl, rfl, rfl, rfl, HA, HK1, HB⟩ := hrel
    cases gk with
    | zero => exact absurd HA.out (by simp [abugidalaw07_OrderPlain.l0])
    | succ k1 =>
      have H := HA.out
      clear HA
      simp only [abugidalaw07_OrderPlain.l0] at H
      by_cases c6 : x7_1 < (t377.size : Int)
      · rw [if_pos c6] at H
        have c6b0 : decide (x7_1 < (t377.size : Int)) = true := decide_eq_true c6
        clear c6
        by_cases c7 : 0 ≤ x7_1
        · rw [if_pos c7] at H
          have c7b0 : decide (0 ≤ x7_1) = true := decide_eq_true c7
          clear c7
          replace H := Option.bind_eq_some_iff.mp H
          obtain ⟨t378, A90, H⟩ := H
          replace H : (if t378 = 2 then (abugidalaw07_OrderPlain.j1 k1 t377 t376 x4_1 x5_1 x6_1 x7_1 (wrap64 (bt t377 x7_1)) t378) else (if x7_1 ≤ (wrap64 (x7_1 + 1)) then (if (wrap64 (x7_1 + 1)) ≤ (t377.size : Int) then (if x4_1.size + (t377.extract (x7_1 : Int).toNat ((wrap64 (x7_1 + 1)) : Int).toNat).size ≤ 9223372036854775807 then (abugidalaw07_OrderPlain.j1 k1 t377 t376 (x4_1 ++ (t377.extract (x7_1 : Int).toNat ((wrap64 (x7_1 + 1)) : Int).toNat)) x5_1 x6_1 x7_1 (wrap64 (bt t377 x7_1)) t378) else (none)) else (none)) else (none))) = some r := H
          have A9 := Aside0.mk A90
          clear A90
          have HC10 := Aside0.mk H
          clear H
          have p8 : 0 ≤ (x7_1 : Int) := of_decide_eq_true (by first | (with_reducible assumption) | assumption)
          have q8 : x7_1 < (t377.size : Int) := of_decide_eq_true (by first | (with_reducible assumption) | assumption)
          have hx8 := bt_at t377 x7_1
          replace p8 := eq_true p8
          replace q8 := eq_true q8
          go_upto_if 35 with (first | ((with_reducible refine gate_callee (f := 19) rfl ?_); refine goesL_ (some 33) rfl rfl Try.func19 (by kernel_rfl) rfl #[.int .i64 (wrap64 (bt t377 x7_1))] rfl (by (try simp only [List.map_toArray, List.map_cons, List.map_nil]); first | done | rfl | (simp only [List.length_drop, List.length_take]; rfl)) ?_; (with_reducible refine (abugidaref05_Strong.calls k1 (wrap64 (bt t377 x7_1)) t378 _ A9.out).mono ?_); rintro e w11 ⟨rfl, hb⟩; refine ⟨_, rfl, ?_⟩; have n0_ := Aside0.mk (below_step (by repeat (first | (with_reducible first | exact HB.out | apply below_alloc | apply pw_below_drewN | apply below_drew1) | exact HB.out)) hb); clear HB; have HB := n0_; clear n0_; (try clear hb); (try clear hb2); (try clear hk); (try clear hi)))
          (try simp only [Act.put, List.setIfInBounds_toArray, List.set_cons_zero, List.set_cons_succ])
          go_cut [4] (fun v4 wc => ∃ (kq : Nat) (x4_9 : ByteArray), v4 = .string x4_9 ∧ Aside0 (abugidalaw07_OrderPlain.j1 kq t377 t376 x4_9 x5_1 x6_1 x7_1 (wrap64 (bt t377 x7_1)) t378 = some r) ∧ Aside0 (kq ≤ k1) ∧ Aside0 (Below w.heap.size w wc))
          case first =>
            have H := HC10.out
            clear HC10
            by_cases c12 : t378 = 2
            · rw [if_pos c12] at H
              have c12b0 : (t378 == 2) = true := beq_iff_eq.mpr c12
              have c12b1 : (t378 != 2) = false := bne_eq_false_iff_eq.mpr c12
              clear c12
              (first | rw [c12b0] | (simp only [i64_w, i32_w]; rw [c12b0]) | skip)
              have H' := Aside0.mk H
              clear H
              go_wp2
              go_meet
              case rel => exact ⟨_, (x4_1), (by first | rfl | (simp; done) | (simp [*]; done)), H', ⟨by have := HK1.out; first | omega | exact Nat.le_refl _⟩, ⟨by repeat (first | (with_reducible first | exact HB.out | apply below_alloc | apply pw_below_drewN | apply below_drew1) | exact HB.out)⟩⟩
            · rw [if_neg c12] at H
              have c12b0 : (t378 == 2) = false := beq_eq_false_iff_ne.mpr c12
              have c12b1 : (t378 != 2) = true := bne_iff_ne.mpr c12
              (first | rw [c12b0] | (simp only [i64_w, i32_w]; rw [c12b0]) | skip)
              have c13b0 := eq_true (of_decide_eq_true (by first | (with_reducible assumption) | assumption) : 0 ≤ x7_1)
              by_cases c14 : x7_1 ≤ (wrap64 (x7_1 + 1))
              · rw [if_pos c14] at H
                have c14b0 := eq_true c14
                have c14b1 : decide (x7_1 ≤ (wrap64 (x7_1 + 1))) = true := decide_eq_true c14
                by_cases c15 : (wrap64 (x7_1 + 1)) ≤ (t377.size : Int)
                · rw [if_pos c15] at H
                  have c15b0 := eq_true c15
                  have c15b1 : decide ((wrap64 (x7_1 + 1)) ≤ (t377.size : Int)) = true := decide_eq_true c15
                  by_cases c16 : x4_1.size + (t377.extract (x7_1 : Int).toNat ((wrap64 (x7_1 + 1)) : Int).toNat).size ≤ 9223372036854775807
                  · rw [if_pos c16] at H
                    have c16b0 := eq_true c16
                    have c16b1 : decide (x4_1.size + (t377.extract (x7_1 : Int).toNat ((wrap64 (x7_1 + 1)) : Int).toNat).size ≤ 9223372036854775807) = true := decide_eq_true c16
                    try have c16b2 : (9223372036854775807 < x4_1.size + (t377.extract (x7_1 : Int).toNat ((wrap64 (x7_1 + 1)) : Int).toNat).size) = False := eq_false (Nat.not_lt.2 c16)
                    have H' := Aside0.mk H
                    clear H
                    go_wp2
                    go_meet
                    case rel => exact ⟨_, (x4_1 ++ (t377.extract (x7_1 : Int).toNat ((wrap64 (x7_1 + 1)) : Int).toNat)), (by first | rfl | (simp; done) | (simp [*]; done)), H', ⟨by have := HK1.out; first | omega | exact Nat.le_refl _⟩, ⟨by repeat (first | (with_reducible first | exact HB.out | apply below_alloc | apply pw_below_drewN | apply below_drew1) | exact HB.out)⟩⟩
                  · rw [if_neg c16] at H
                    exact absurd H (by simp)
                · rw [if_neg c15] at H
                  exact absurd H (by simp)
              · rw [if_neg c14] at H
                exact absurd H (by simp)
          case rest =>
            clear HC10
            try clear c1
            try clear p2
            try clear c4
            try clear c6
            try clear c6b0
            try clear p6
            try clear c7
            try clear c7b0
            try clear p8
            try clear q8
            try clear hx8
            try clear c9
            try clear c10
            try clear c12
            try clear c12b0
            try clear c12b1
            try clear c13
            try clear c13b0
            try clear c14
            try clear c14b0
            try clear c14b1
            try clear c15
            try clear c15b0
            try clear c15b1
            try clear c16
            try clear c16b0
            try clear c16b1
            try clear c16b2
            try clear p2
            try clear p8
            try clear q8
            obtain ⟨kq, x4_9, rfl, HA, HJ9, HB⟩ := hcut
            cases kq with
            | zero => exact absurd HA.out (by simp [abugidalaw07_OrderPlain.j1])
            | succ kj9 =>
              have H := HA.out
              clear HA
              simp only [abugidalaw07_OrderPlain.j1] at H
              have HC17 := Aside0.mk H
              clear H
              go_upto_region 11 with (fail)
              go_cut [48] (fun v48 wc => ∃ (kq : Nat) (x48_16 : Bool), v48 = .bool x48_16 ∧ Aside0 (abugidalaw07_OrderPlain.j2 kq t377 t376 x4_9 x5_1 x6_1 x7_1 (wrap64 (bt t377 x7_1)) x48_16 = some r) ∧ Aside0 (kq ≤ kj9) ∧ Aside0 (Below w.heap.size w wc))
              case first =>
                have H := HC17.out
                clear HC17
                by_cases c18 : t378 = 1
                · rw [if_pos c18] at H
                  have c18b0 : (t378 == 1) = true := beq_iff_eq.mpr c18
                  have c18b1 : (t378 != 1) = false := bne_eq_false_iff_eq.mpr c18
                  clear c18
                  (first | rw [c18b0] | (simp only [i64_w, i32_w]; rw [c18b0]) | skip)
                  have H' := Aside0.mk H
                  clear H
                  go_wp2
                  go_meet
                  case rel => exact ⟨_, (false), (by first | rfl | (simp; done) | (simp [*]; done)), H', ⟨by have := HK1.out; have := HJ9.out; first | omega | exact Nat.le_refl _⟩, ⟨by repeat (first | (with_reducible first | exact HB.out | apply below_alloc | apply pw_below_drewN | apply below_drew1) | exact HB.out)⟩⟩
                · rw [if_neg c18] at H
                  have c18b0 : (t378 == 1) = false := beq_eq_false_iff_ne.mpr c18
                  have c18b1 : (t378 != 1) = true := bne_iff_ne.mpr c18
                  (first | rw [c18b0] | (simp only [i64_w, i32_w]; rw [c18b0]) | skip)
                  have H' := Aside0.mk H
                  clear H
                  go_wp2
                  go_meet
                  case rel => exact ⟨_, ((t378 != 3)), (by first | rfl | (simp; done) | (simp [*]; done)), H', ⟨by have := HK1.out; have := HJ9.out; first | omega | exact Nat.le_refl _⟩, ⟨by repeat (first | (with_reducible first | exact HB.out | apply below_alloc | apply pw_below_drewN | apply below_drew1) | exact HB.out)⟩⟩
              case rest =>
                clear HC17
                try clear c1
                try clear p2
                try clear c4
                try clear c6
                try clear c6b0
                try clear p6
                try clear c7
                try clear c7b0
                try clear p8
                try clear q8
                try clear hx8
                try clear c9
                try clear c10
                try clear c12
                try clear c12b0
                try clear c12b1
                try clear c13
                try clear c13b0
                try clear c14
                try clear c14b0
                try clear c14b1
                try clear c15
                try clear c15b0
                try clear c15b1
                try clear c16
                try clear c16b0
                try clear c16b1
                try clear c16b2
                try clear c18
                try clear c18b0
                try clear c18b1
                try clear p2
                try clear p6
                try clear p8
                try clear q8
                obtain ⟨kq, x48_16, rfl, HA, HJ16, HB⟩ := hcut
                cases kq with
                | zero => exact absurd HA.out (by simp [abugidalaw07_OrderPlain.j2])
                | succ kj16 =>
                  have H := HA.out
                  clear HA
                  simp only [abugidalaw07_OrderPlain.j2] at H
                  have HC19 := Aside0.mk H
                  clear H
                  go_upto_if 48 with (fail)
                  go_cut [5] (fun v5 wc => ∃ (kq : Nat) (x5_18 : ByteArray), v5 = .string x5_18 ∧ Aside0 (abugidalaw07_OrderPlain.j3 kq t377 t376 x4_9 x5_18 x6_1 x7_1 (wrap64 (bt t377 x7_1)) = some r) ∧ Aside0 (kq ≤ kj16) ∧ Aside0 (Below w.heap.size w wc))
                  case first =>
                    have H := HC19.out
                    clear HC19
                    by_cases c20 : x48_16 = true
                    · subst c20
                      have H1 : (if 0 ≤ x7_1 then (if x7_1 ≤ (wrap64 (x7_1 + 1)) then (if (wrap64 (x7_1 + 1)) ≤ (t377.size : Int) then (if x5_1.size + (t377.extract (x7_1 : Int).toNat ((wrap64 (x7_1 + 1)) : Int).toNat).size ≤ 9223372036854775807 then (abugidalaw07_OrderPlain.j3 kj16 t377 t376 x4_9 (x5_1 ++ (t377.extract (x7_1 : Int).toNat ((wrap64 (x7_1 + 1)) : Int).toNat)) x6_1 x7_1 (wrap64 (bt t377 x7_1))) else (none)) else (none)) else (none)) else (none)) = some r := by rw [if_pos rfl] at H; exact H
                      clear H
                      have H := H1
                      clear H1
                      by_cases c21 : 0 ≤ x7_1
                      · rw [if_pos c21] at H
                        have c21b0 := eq_true c21
                        have c21b1 : decide (0 ≤ x7_1) = true := decide_eq_true c21
                        clear c21
                        by_cases c22 : x7_1 ≤ (wrap64 (x7_1 + 1))
                        · rw [if_pos c22] at H
                          have c22b0 := eq_true c22
                          have c22b1 : decide (x7_1 ≤ (wrap64 (x7_1 + 1))) = true := decide_eq_true c22
                          by_cases c23 : (wrap64 (x7_1 + 1)) ≤ (t377.size : Int)
                          · rw [if_pos c23] at H
                            have c23b0 := eq_true c23
                            have c23b1 : decide ((wrap64 (x7_1 + 1)) ≤ (t377.size : Int)) = true := decide_eq_true c23
                            by_cases c24 : x5_1.size + (t377.extract (x7_1 : Int).toNat ((wrap64 (x7_1 + 1)) : Int).toNat).size ≤ 9223372036854775807
                            · rw [if_pos c24] at H
                              have c24b0 := eq_true c24
                              have c24b1 : decide (x5_1.size + (t377.extract (x7_1 : Int).toNat ((wrap64 (x7_1 + 1)) : Int).toNat).size ≤ 9223372036854775807) = true := decide_eq_true c24
                              try have c24b2 : (9223372036854775807 < x5_1.size + (t377.extract (x7_1 : Int).toNat ((wrap64 (x7_1 + 1)) : Int).toNat).size) = False := eq_false (Nat.not_lt.2 c24)
                              have H' := Aside0.mk H
                              clear H
                              go_wp2
                              go_meet
                              case rel => exact ⟨_, (x5_1 ++ (t377.extract (x7_1 : Int).toNat ((wrap64 (x7_1 + 1)) : Int).toNat)), (by first | rfl | (simp; done) | (simp [*]; done)), H', ⟨by have := HK1.out; have := HJ9.out; have := HJ16.out; first | omega | exact Nat.le_refl _⟩, ⟨by repeat (first | (with_reducible first | exact HB.out | apply below_alloc | apply pw_below_drewN | apply below_drew1) | exact HB.out)⟩⟩
                            · rw [if_neg c24] at H
                              exact absurd H (by simp)
                          · rw [if_neg c23] at H
                            exact absurd H (by simp)
                        · rw [if_neg c22] at H
                          exact absurd H (by simp)
                      · rw [if_neg c21] at H
                        exact absurd H (by simp)
                    · replace c20 := Bool.eq_false_iff.mpr c20
                      subst c20
                      have H1 : (abugidalaw07_OrderPlain.j3 kj16 t377 t376 x4_9 x5_1 x6_1 x7_1 (wrap64 (bt t377 x7_1))) = some r := by rw [if_neg (show ¬ (false = true) by decide)] at H; exact H
                      clear H
                      have H := H1
                      clear H1
                      have H' := Aside0.mk H
                      clear H
                      go_wp2
                      go_meet
                      case rel => exact ⟨_, (x5_1), (by first | rfl | (simp; done) | (simp [*]; done)), H', ⟨by have := HK1.out; have := HJ9.out; have := HJ16.out; first | omega | exact Nat.le_refl _⟩, ⟨by repeat (first | (with_reducible first | exact HB.out | apply below_alloc | apply pw_below_drewN | apply below_drew1) | exact HB.out)⟩⟩
                  case rest =>
                    clear HC19
                    try clear c1
                    try clear c2
                    try clear p2
                    try clear c4
                    try clear c6
                    try clear c6b0
                    try clear p6
                    try clear c7
                    try clear c7b0
                    try clear p8
                    try clear q8
                    try clear hx8
                    try clear c9
                    try clear c10
                    try clear c12
                    try clear c12b0
                    try clear c12b1
                    try clear c13
                    try clear c13b0
                    try clear c14
                    try clear c14b0
                    try clear c14b1
                    try clear c15
                    try clear c15b0
                    try clear c15b1
                    try clear c16
                    try clear c16b0
                    try clear c16b1
                    try clear c16b2
                    try clear c18
                    try clear c18b0
                    try clear c18b1
                    try clear c19
                    try clear c20
                    try clear c21
                    try clear c21b0
                    try clear c21b1
                    try clear c22
                    try clear c22b0
                    try clear c22b1
                    try clear c23
                    try clear c23b0
                    try clear c23b1
                    try clear c24
                    try clear c24b0
                    try clear c24b1
                    try clear c24b2
                    try clear p2
                    try clear p6
                    try clear p8
                    try clear q8
                    obtain ⟨kq, x5_18, rfl, HA, HJ18, HB⟩ := hcut
                    cases kq with
                    | zero => exact absurd HA.out (by simp [abugidalaw07_OrderPlain.j3])
                    | succ kj18 =>
                      have H := HA.out
                      clear HA
                      simp only [abugidalaw07_OrderPlain.j3] at H
                      replace H := Option.bind_eq_some_iff.mp H
                      obtain ⟨t379, A250, H⟩ := H
                      replace H : ((abugidaref05_Codes.f kj18 t379).bind fun t380 => (abugidalaw07_OrderPlain.l1 kj18 t377 t376 x4_9 x5_18 x6_1 x7_1 (wrap64 (bt t377 x7_1)) (wrap64 (bt t377 x7_1)) t380 (t380.length : Int) 0)) = some r := H
                      have A25 := Aside0.mk A250
                      clear A250
                      replace H := Option.bind_eq_some_iff.mp H
                      obtain ⟨t380, A260, H⟩ := H
                      replace H : (abugidalaw07_OrderPlain.l1 kj18 t377 t376 x4_9 x5_18 x6_1 x7_1 (wrap64 (bt t377 x7_1)) (wrap64 (bt t377 x7_1)) t380 (t380.length : Int) 0) = some r := H
                      have A26 := Aside0.mk A260
                      clear A260
                      have H' := Aside0.mk H
                      clear H
                      go_wp2_with (first | ((with_reducible refine gate_callee (f := 21) rfl ?_); refine goesL_ (some 58) rfl rfl Try.func21 (by kernel_rfl) rfl #[.int .i64 (wrap64 (bt t377 x7_1))] rfl (by (try simp only [List.map_toArray, List.map_cons, List.map_nil]); first | done | rfl | (simp only [List.length_drop, List.length_take]; rfl)) ?_; (with_reducible refine (abugidaref05_Script.calls (wrap64 (bt t377 x7_1)) t379 _ A25.out).mono ?_); rintro e w' ⟨rfl, ⟨nd, rfl⟩⟩; refine ⟨_, rfl, ?_⟩) | ((with_reducible refine gate_callee (f := 20) rfl ?_); refine goesL_ (some 59) rfl rfl Try.func20 (by kernel_rfl) rfl #[.int .i64 t379] rfl (by (try simp only [List.map_toArray, List.map_cons, List.map_nil]); first | done | rfl | (simp only [List.length_drop, List.length_take]; rfl)) ?_; (with_reducible refine (abugidaref05_Codes.calls kj18 t379 t380 _ A26.out).mono ?_); rintro e w27 ⟨v381, rfl, ho0, hb⟩; refine ⟨_, rfl, ?_⟩; have n0_ := Aside0.mk (Kd.R_lower ho0 (below_size (by repeat (first | (with_reducible first | exact HB.out | apply below_alloc | apply pw_below_drewN | apply below_drew1) | exact HB.out)))); have n1_ := Aside0.mk (below_step (by repeat (first | (with_reducible first | exact HB.out | apply below_alloc | apply pw_below_drewN | apply below_drew1) | exact HB.out)) hb); clear HB; have HO382 := n0_; have HB := n1_; clear n0_ n1_; (try clear hb); (try clear hb2); (try clear hk); (try clear hi); (try clear ho0); obtain ⟨Ao28, co28, eo28⟩ := Kd.R_slice HO382.out; subst eo28))
                      go_loopg [10, 61] kj18 (fun kq v10 v61 w' => ∃ (x10_5 : Int) (x61_5 : Int), v10 = .int .i64 x10_5 ∧ v61 = .int .i64 x61_5 ∧ Aside0 (abugidalaw07_OrderPlain.l1 kq t377 t376 x4_9 x5_18 x6_1 x7_1 (wrap64 (bt t377 x7_1)) x10_5 t380 (t380.length : Int) x61_5 = some r) ∧ Aside0 (kq ≤ kj18) ∧ Aside0 (Kd.R (Kd.int .i64) 3 w' w.heap.size (fun _ => True) (.slice Ao28 t380.length co28) t380) ∧ Aside0 (Below w.heap.size w w'))
                      case atStart => exact ⟨((wrap64 (bt t377 x7_1))), (0), (by first | rfl | (simp; done) | (simp [*]; done)), (by first | rfl | (simp; done) | (simp [*]; done)), H', ⟨Nat.le_refl _⟩, ⟨by (with_reducible repeat (first | apply Kd.R_alloc | apply Kd.R_drewN | apply Kd.R_drew)); exact HO382.out⟩, ⟨by repeat (first | (with_reducible first | exact HB.out | apply below_alloc | apply pw_below_drewN | apply below_drew1) | exact HB.out)⟩⟩
                      case round =>
                        clear H'
                        try clear c1
                        try clear c2
                        try clear p2
                        try clear c4
                        try clear c6
                        try clear c6b0
                        try clear p6
                        try clear c7
                        try clear c7b0
                        try clear p8
                        try clear q8
                        try clear hx8
                        try clear c9
                        try clear c10
                        try clear c12
                        try clear c12b0
                        try clear c12b1
                        try clear c13
                        try clear c13b0
                        try clear c14
                        try clear c14b0
                        try clear c14b1
                        try clear c15
                        try clear c15b0
                        try clear c15b1
                        try clear c16
                        try clear c16b0
                        try clear c16b1
                        try clear c16b2
                        try clear c18
                        try clear c18b0
                        try clear c18b1
                        try clear c19
                        try clear c20
                        try clear c21
                        try clear c21b0
                        try clear c21b1
                        try clear c22
                        try clear c22b0
                        try clear c22b1
                        try clear c23
                        try clear c23b0
                        try clear c23b1
                        try clear c24
                        try clear c24b0
                        try clear c24b1
                        try clear c24b2
                        try clear p2
                        try clear p6
                        try clear p8
                        try clear q8
                        obtain ⟨x10_5, x61_5, rfl, rfl, HA, HK5, HO_59, HB⟩ := hrel
                        cases gk with
                        | zero => exact absurd HA.out (by simp [abugidalaw07_OrderPlain.l1])
                        | succ k5 =>
                          have H := HA.out
                          clear HA
                          simp only [abugidalaw07_OrderPlain.l1] at H
                          by_cases c29 : x61_5 < (t380.length : Int)
                          · rw [if_pos c29] at H
                            have c29b0 : decide (x61_5 < (t380.length : Int)) = true := decide_eq_true c29
                            clear c29
                            by_cases c30 : 0 ≤ x61_5
                            · rw [if_pos c30] at H
                              have c30b0 : decide (0 ≤ x61_5) = true := decide_eq_true c30
                              clear c30
                              by_cases c31 : x61_5 < (t380.length : Int)
                              · rw [if_pos c31] at H
                                have c31b0 : decide (x61_5 < (t380.length : Int)) = true := decide_eq_true c31
                                clear c31
                                replace H := Option.bind_eq_some_iff.mp H
                                obtain ⟨t387, A320, H⟩ := H
                                replace H : ((abugidaref05_Class.f k5 (wrap64 (bt t377 x7_1))).bind fun t388 => (if t387 = t388 then (abugidalaw07_OrderPlain.l1 k5 t377 t376 x4_9 x5_18 x6_1 x7_1 (wrap64 (bt t377 x7_1)) (rd t380 x61_5) t380 (t380.length : Int) (wrap64 (x61_5 + 1))) else (abugidalaw07_OrderPlain.l1 k5 t377 t376 x4_9 x5_18 x6_1 x7_1 (wrap64 (bt t377 x7_1)) x10_5 t380 (t380.length : Int) (wrap64 (x61_5 + 1))))) = some r := H
                                have A32 := Aside0.mk A320
                                clear A320
                                replace H := Option.bind_eq_some_iff.mp H
                                obtain ⟨t388, A330, H⟩ := H
                                replace H : (if t387 = t388 then (abugidalaw07_OrderPlain.l1 k5 t377 t376 x4_9 x5_18 x6_1 x7_1 (wrap64 (bt t377 x7_1)) (rd t380 x61_5) t380 (t380.length : Int) (wrap64 (x61_5 + 1))) else (abugidalaw07_OrderPlain.l1 k5 t377 t376 x4_9 x5_18 x6_1 x7_1 (wrap64 (bt t377 x7_1)) x10_5 t380 (t380.length : Int) (wrap64 (x61_5 + 1)))) = some r := H
                                have A33 := Aside0.mk A330
                                clear A330
                                by_cases c34 : t387 = t388
                                · rw [if_pos c34] at H
                                  have c34b0 : (t387 == t388) = true := beq_iff_eq.mpr c34
                                  have c34b1 : (t387 != t388) = false := bne_eq_false_iff_eq.mpr c34
                                  clear c34
                                  have H' := Aside0.mk H
                                  clear H
                                  have p386 : 0 ≤ (x61_5 : Int) := of_decide_eq_true (by first | (with_reducible assumption) | assumption)
                                  have q386 : x61_5 < (t380.length : Int) := of_decide_eq_true (by first | (with_reducible assumption) | assumption)
                                  obtain ⟨ad386, e386, hx386_0⟩ := Kd.at_int (Kd.R_reads' HO_59.out).2.2 x61_5 p386 q386
                                  cases e386
                                  replace p386 := eq_true p386
                                  replace q386 := eq_true q386
                                  go_wp2_with (first | ((with_reducible refine gate_callee (f := 22) rfl ?_); refine goesL_ (some 66) rfl rfl Try.func22 (by kernel_rfl) rfl #[.int .i64 (rd t380 x61_5)] rfl (by (try simp only [List.map_toArray, List.map_cons, List.map_nil]); first | done | rfl | (simp only [List.length_drop, List.length_take]; rfl)) ?_; (with_reducible refine (abugidaref05_Class.calls k5 (rd t380 x61_5) t387 _ A32.out).mono ?_); rintro e w' ⟨rfl, ⟨nd, rfl⟩⟩; refine ⟨_, rfl, ?_⟩) | ((with_reducible refine gate_callee (f := 22) rfl ?_); refine goesL_ (some 68) rfl rfl Try.func22 (by kernel_rfl) rfl #[.int .i64 (wrap64 (bt t377 x7_1))] rfl (by (try simp only [List.map_toArray, List.map_cons, List.map_nil]); first | done | rfl | (simp only [List.length_drop, List.length_take]; rfl)) ?_; (with_reducible refine (abugidaref05_Class.calls k5 (wrap64 (bt t377 x7_1)) t388 _ A33.out).mono ?_); rintro e w' ⟨rfl, ⟨nd, rfl⟩⟩; refine ⟨_, rfl, ?_⟩))
                                  go_roundg k5
                                  case measure => have := HK1.out; have := HJ9.out; have := HJ16.out; have := HJ18.out; have := HK5.out; omega
                                  case rel => exact ⟨(rd t380 x61_5), (wrap64 (x61_5 + 1)), (by first | rfl | (simp; done) | (simp [*]; done)), (by first | rfl | (simp; done) | (simp [*]; done)), H', ⟨by have := HK1.out; have := HJ9.out; have := HJ16.out; have := HJ18.out; have := HK5.out; omega⟩, ⟨by (with_reducible repeat (first | apply Kd.R_alloc | apply Kd.R_drewN | apply Kd.R_drew)); exact HO_59.out⟩, ⟨by repeat (first | (with_reducible first | exact HB.out | apply below_alloc | apply pw_below_drewN | apply below_drew1) | exact HB.out)⟩⟩
                                · rw [if_neg c34] at H
                                  have c34b0 : (t387 == t388) = false := beq_eq_false_iff_ne.mpr c34
                                  have c34b1 : (t387 != t388) = true := bne_iff_ne.mpr c34
                                  have H' := Aside0.mk H
                                  clear H
                                  have p386 : 0 ≤ (x61_5 : Int) := of_decide_eq_true (by first | (with_reducible assumption) | assumption)
                                  have q386 : x61_5 < (t380.length : Int) := of_decide_eq_true (by first | (with_reducible assumption) | assumption)
                                  obtain ⟨ad386, e386, hx386_0⟩ := Kd.at_int (Kd.R_reads' HO_59.out).2.2 x61_5 p386 q386
                                  cases e386
                                  replace p386 := eq_true p386
                                  replace q386 := eq_true q386
                                  go_wp2_with (first | ((with_reducible refine gate_callee (f := 22) rfl ?_); refine goesL_ (some 66) rfl rfl Try.func22 (by kernel_rfl) rfl #[.int .i64 (rd t380 x61_5)] rfl (by (try simp only [List.map_toArray, List.map_cons, List.map_nil]); first | done | rfl | (simp only [List.length_drop, List.length_take]; rfl)) ?_; (with_reducible refine (abugidaref05_Class.calls k5 (rd t380 x61_5) t387 _ A32.out).mono ?_); rintro e w' ⟨rfl, ⟨nd, rfl⟩⟩; refine ⟨_, rfl, ?_⟩) | ((with_reducible refine gate_callee (f := 22) rfl ?_); refine goesL_ (some 68) rfl rfl Try.func22 (by kernel_rfl) rfl #[.int .i64 (wrap64 (bt t377 x7_1))] rfl (by (try simp only [List.map_toArray, List.map_cons, List.map_nil]); first | done | rfl | (simp only [List.length_drop, List.length_take]; rfl)) ?_; (with_reducible refine (abugidaref05_Class.calls k5 (wrap64 (bt t377 x7_1)) t388 _ A33.out).mono ?_); rintro e w' ⟨rfl, ⟨nd, rfl⟩⟩; refine ⟨_, rfl, ?_⟩))
                                  go_roundg k5
                                  case measure => have := HK1.out; have := HJ9.out; have := HJ16.out; have := HJ18.out; have := HK5.out; omega
                                  case rel => exact ⟨(x10_5), (wrap64 (x61_5 + 1)), (by first | rfl | (simp; done) | (simp [*]; done)), (by first | rfl | (simp; done) | (simp [*]; done)), H', ⟨by have := HK1.out; have := HJ9.out; have := HJ16.out; have := HJ18.out; have := HK5.out; omega⟩, ⟨by (with_reducible repeat (first | apply Kd.R_alloc | apply Kd.R_drewN | apply Kd.R_drew)); exact HO_59.out⟩, ⟨by repeat (first | (with_reducible first | exact HB.out | apply below_alloc | apply pw_below_drewN | apply below_drew1) | exact HB.out)⟩⟩
                              · rw [if_neg c31] at H
                                exact absurd H (by simp)
                            · rw [if_neg c30] at H
                              exact absurd H (by simp)
                          · rw [if_neg c29] at H
                            have c29b0 : decide (x61_5 < (t380.length : Int)) = false := decide_eq_false c29
                            clear c29
                            obtain ⟨y383, hy383⟩ : ∃ y_ : List Int, y_ = (([(x10_5) % 256] : List Int)) := ⟨_, rfl⟩
                            replace H : (if x6_1.size + (strOfNums y383).size ≤ 9223372036854775807 then (abugidalaw07_OrderPlain.l0 k5 t377 t376 x4_9 x5_18 (x6_1 ++ (strOfNums y383)) (wrap64 (x7_1 + 1))) else (none)) = some r := by first | (rw [hy383]; with_reducible exact H) | (have H2_ := (Option.bind_some _ _).symm.trans H; rw [hy383]; with_reducible exact H2_) | (have H2_ := (Option.bind_some _ _).symm.trans H; with_reducible exact H2_) | with_reducible exact H | (rw [hy383]; exact H) | exact H
                            have Ny383 := Aside0.mk hy383
                            clear hy383
                            by_cases c35 : x6_1.size + (strOfNums y383).size ≤ 9223372036854775807
                            · rw [if_pos c35] at H
                              have c35b0 := eq_true c35
                              have c35b1 : decide (x6_1.size + (strOfNums y383).size ≤ 9223372036854775807) = true := decide_eq_true c35
                              try have c35b2 : (9223372036854775807 < x6_1.size + (strOfNums y383).size) = False := eq_false (Nat.not_lt.2 c35)
                              have H' := Aside0.mk H
                              clear H
                              go_wp2_with (first | ((with_reducible refine gate_dst (N := 75) rfl ?_); refine Kd.R_lit (Kd.int .u8) _ 5 ?hg (N := 75) ?hd (xs := ([(x10_5) % 256] : List Int)) (inner := [.int .u8 ((x10_5) % 256)]) (ok := fun _ => True) (okp := fun _ => True) ?hr ?hp (fun _ hk => hk) trivial (Below.refl _ _) (Nat.le_refl _) (by simp) ?_; (case hd => rfl); (case hg => rfl); (case hr => first | (go_simp; done) | (go_simp; rfl)); (case hp => exact (Reps.one (show Kd.M (Kd.int .u8) _ _ _ ((x10_5) % 256) [.int .u8 ((x10_5) % 256)] from rfl) (Reps.none _ _))); intro v384 w36 ho37 hb hg_ hnew_; clear hg_ hnew_; (first | rw [← Ny383.out] at ho37 | (simp only [Int.reduceToNat] at ho37; rw [← Ny383.out] at ho37)); have n0_ := Aside0.mk (Kd.R_below (by (with_reducible repeat (first | apply Kd.R_alloc | apply Kd.R_drewN | apply Kd.R_drew)); exact HO_59.out) hb); have n1_ := Aside0.mk (Kd.R_lower ho37 (below_size (by repeat (first | (with_reducible first | exact HB.out | apply below_alloc | apply pw_below_drewN | apply below_drew1) | exact HB.out)))); have n2_ := Aside0.mk (below_step (by repeat (first | (with_reducible first | exact HB.out | apply below_alloc | apply pw_below_drewN | apply below_drew1) | exact HB.out)) hb); clear HO_59; clear HB; have HO_59 := n0_; have HO385 := n1_; have HB := n2_; clear n0_ n1_ n2_; clear hb ho37; have hcv38 := own_string (P := Try.prog) Try.underlying33 Try.underlying5 Try.underlying9 (Kd.own_of_R HO385.out)))
                              go_roundg k5
                              case measure => have := HK1.out; have := HJ9.out; have := HJ16.out; have := HJ18.out; have := HK5.out; omega
                              case rel => exact ⟨(x4_9), (x5_18), (x6_1 ++ (strOfNums y383)), (wrap64 (x7_1 + 1)), (by first | rfl | (simp; done) | (simp [*]; done)), (by first | rfl | (simp; done) | (simp [*]; done)), (by first | rfl | (simp; done) | (simp [*]; done)), (by first | rfl | (simp; done) | (simp [*]; done)), H', ⟨by have := HK1.out; have := HJ9.out; have := HJ16.out; have := HJ18.out; have := HK5.out; omega⟩, ⟨by repeat (first | (with_reducible first | exact HB.out | apply below_alloc | apply pw_below_drewN | apply below_drew1) | exact HB.out)⟩⟩
                            · rw [if_neg c35] at H
                              exact absurd H (by simp)
        · rw [if_neg c7] at H
          exact absurd H (by simp)
      · rw [if_neg c6] at H
        have c6b0 : decide (x7_1 < (t377.size : Int)) = false := decide_eq_false c6
        clear c6
        have H' := Aside0.mk H
        clear H
        go_wp2
        go_loopg [13, 14] k1 (fun kq v13 v14 w' => ∃ (x13_2 : Bool) (x14_2 : Int), v13 = .bool x13_2 ∧ v14 = .int .i64 x14_2 ∧ Aside0 (abugidalaw07_OrderPlain.l2 kq t377 t376 x4_1 x5_1 x6_1 x13_2 x14_2 = some r) ∧ Aside0 (kq ≤ k1) ∧ Aside0 (Below w.heap.size w w'))
        case atStart => exact ⟨(false), (0), (by first | rfl | (simp; done) | (simp [*]; done)), (by first | rfl | (simp; done) | (simp [*]; done)), H', ⟨Nat.le_refl _⟩, ⟨by repeat (first | (with_reducible first | exact HB.out | apply below_alloc | apply pw_below_drewN | apply below_drew1) | exact HB.out)⟩⟩
        case round =>
          clear H'
          try clear c1
          try clear c2
          try clear p2
          try clear c3
          try clear p3
          try clear q3
          try clear hx3
          try clear hcv3
          try clear c4
          try clear c6
          try clear c6b0
          try clear p6
          try clear c7
          try clear c7b0
          try clear p8
          try clear q8
          try clear hx8
          try clear c9
          try clear c10
          try clear c12
          try clear c12b0
          try clear c12b1
          try clear c13
          try clear c13b0
          try clear c14
          try clear c14b0
          try clear c14b1
          try clear c15
          try clear c15b0
          try clear c15b1
          try clear c16
          try clear c16b0
          try clear c16b1
          try clear c16b2
          try clear c18
          try clear c18b0
          try clear c18b1
          try clear c19
          try clear c20
          try clear c21
          try clear c21b0
          try clear c21b1
          try clear c22
          try clear c22b0
          try clear c22b1
          try clear c23
          try clear c23b0
          try clear c23b1
          try clear c24
          try clear c24b0
          try clear c24b1
          try clear c24b2
          try clear c29
          try clear c29b0
          try clear c30
          try clear c30b0
          try clear c31
          try clear c31b0
          try clear c34
          try clear c34b0
          try clear c34b1
          try clear c35
          try clear c35b0
          try clear c35b1
          try clear c35b2
          try clear p38
          try clear q38
          try clear hx38
          try clear hcv38
          try clear hx386_0
          try clear p2
          try clear p386
          try clear p6
          try clear p8
          try clear q386
          try clear q8
          obtain ⟨x13_2, x14_2, rfl, rfl, HA, HK2, HB⟩ := hrel
          cases gk with
          | zero => exact absurd HA.out (by simp [abugidalaw07_OrderPlain.l2])
          | succ k2 =>
            have H := HA.out
            clear HA
            simp only [abugidalaw07_OrderPlain.l2] at H
            by_cases c39 : x14_2 < (x5_1.size : Int)
            · rw [if_pos c39] at H
              have c39b0 : decide (x14_2 < (x5_1.size : Int)) = true := decide_eq_true c39
              clear c39
              by_cases c40 : x13_2 = true
              · subst c40
                have H1 : (abugidalaw07_OrderPlain.l2 k2 t377 t376 x4_1 x5_1 x6_1 true (wrap64 (x14_2 + 1))) = some r := by rw [if_pos rfl] at H; exact H
                clear H
                have H := H1
                clear H1
                have H' := Aside0.mk H
                clear H
                go_wp2
                go_roundg k2
                case measure => have := HK1.out; have := HK2.out; omega
                case rel => exact ⟨(true), (wrap64 (x14_2 + 1)), (by first | rfl | (simp; done) | (simp [*]; done)), (by first | rfl | (simp; done) | (simp [*]; done)), H', ⟨by have := HK1.out; have := HK2.out; omega⟩, ⟨by repeat (first | (with_reducible first | exact HB.out | apply below_alloc | apply pw_below_drewN | apply below_drew1) | exact HB.out)⟩⟩
              · replace c40 := Bool.eq_false_iff.mpr c40
                subst c40
                have H1 : (if 0 ≤ x14_2 then ((abugidaref05_Strong.f k2 (wrap64 (bt x5_1 x14_2))).bind fun t389 => (abugidalaw07_OrderPlain.l2 k2 t377 t376 x4_1 x5_1 x6_1 (t389 == 2) (wrap64 (x14_2 + 1)))) else (none)) = some r := by rw [if_neg (show ¬ (false = true) by decide)] at H; exact H
                clear H
                have H := H1
                clear H1
                by_cases c41 : 0 ≤ x14_2
                · rw [if_pos c41] at H
                  have c41b0 : decide (0 ≤ x14_2) = true := decide_eq_true c41
                  clear c41
                  replace H := Option.bind_eq_some_iff.mp H
                  obtain ⟨t389, A430, H⟩ := H
                  replace H : (abugidalaw07_OrderPlain.l2 k2 t377 t376 x4_1 x5_1 x6_1 (t389 == 2) (wrap64 (x14_2 + 1))) = some r := H
                  have A43 := Aside0.mk A430
                  clear A430
                  have H' := Aside0.mk H
                  clear H
                  have p42 : 0 ≤ (x14_2 : Int) := of_decide_eq_true (by first | (with_reducible assumption) | assumption)
                  have q42 : x14_2 < (x5_1.size : Int) := of_decide_eq_true (by first | (with_reducible assumption) | assumption)
                  have hx42 := bt_at x5_1 x14_2
                  replace p42 := eq_true p42
                  replace q42 := eq_true q42
                  go_wp2_with (first | (go_at_call 19; (with_reducible refine (abugidaref05_Strong.calls k2 (wrap64 (bt x5_1 x14_2)) t389 _ A43.out).mono ?_); rintro e w44 ⟨rfl, hb⟩; have n0_ := Aside0.mk (below_step (by repeat (first | (with_reducible first | exact HB.out | apply below_alloc | apply pw_below_drewN | apply below_drew1) | exact HB.out)) hb); clear HB; have HB := n0_; clear n0_; (try clear hb); (try clear hb2); (try clear hk); (try clear hi)))
                  go_roundg k2
                  case measure => have := HK1.out; have := HK2.out; omega
                  case rel => exact ⟨((t389 == 2)), (wrap64 (x14_2 + 1)), (by first | rfl | (simp; done) | (simp [*]; done)), (by first | rfl | (simp; done) | (simp [*]; done)), H', ⟨by have := HK1.out; have := HK2.out; omega⟩, ⟨by repeat (first | (with_reducible first | exact HB.out | apply below_alloc | apply pw_below_drewN | apply below_drew1) | exact HB.out)⟩⟩
                · rw [if_neg c41] at H
                  exact absurd H (by simp)
            · rw [if_neg c39] at H
              have c39b0 : decide (x14_2 < (x5_1.size : Int)) = false := decide_eq_false c39
              clear c39
              replace H := Option.bind_eq_some_iff.mp H
              obtain ⟨t390, A450, H⟩ := H
              replace H : (abugidalaw07_OrderPlain.l3 k2 t377 t376 x4_1 x5_1 x6_1 x13_2 t390 (t390.length : Int) 0) = some r := H
              have A45 := Aside0.mk A450
              clear A450
              have H' := Aside0.mk H
              clear H
              go_wp2_with (first | ((with_reducible refine gate_callee (f := 14) rfl ?_); refine goesL_ (some 94) rfl rfl Try.func14 (by kernel_rfl) rfl #[.string x4_1] rfl (by (try simp only [List.map_toArray, List.map_cons, List.map_nil]); first | done | rfl | (simp only [List.length_drop, List.length_take]; rfl)) ?_; (with_reducible refine (order_Levels.calls x4_1 t390 _ A45.out).mono ?_); rintro e w46 ⟨v391, rfl, ho0, hb⟩; refine ⟨_, rfl, ?_⟩; have n0_ := Aside0.mk (Kd.R_lower ho0 (below_size (by repeat (first | (with_reducible first | exact HB.out | apply below_alloc | apply pw_below_drewN | apply below_drew1) | exact HB.out)))); have n1_ := Aside0.mk (below_step (by repeat (first | (with_reducible first | exact HB.out | apply below_alloc | apply pw_below_drewN | apply below_drew1) | exact HB.out)) hb); clear HB; have HO392 := n0_; have HB := n1_; clear n0_ n1_; (try clear hb); (try clear hb2); (try clear hk); (try clear hi); (try clear ho0); obtain ⟨Ao47, co47, eo47⟩ := Kd.R_slice HO392.out; subst eo47))
              go_loopg [96] k2 (fun kq v96 w' => ∃ (x96_3 : Int), v96 = .int .i64 x96_3 ∧ Aside0 (abugidalaw07_OrderPlain.l3 kq t377 t376 x4_1 x5_1 x6_1 x13_2 t390 (t390.length : Int) x96_3 = some r) ∧ Aside0 (kq ≤ k2) ∧ Aside0 (Kd.R (Kd.int .i64) 3 w' w.heap.size (fun _ => True) (.slice Ao47 t390.length co47) t390) ∧ Aside0 (Below w.heap.size w w'))
              case atStart => exact ⟨(0), (by first | rfl | (simp; done) | (simp [*]; done)), H', ⟨Nat.le_refl _⟩, ⟨by (with_reducible repeat (first | apply Kd.R_alloc | apply Kd.R_drewN | apply Kd.R_drew)); exact HO392.out⟩, ⟨by repeat (first | (with_reducible first | exact HB.out | apply below_alloc | apply pw_below_drewN | apply below_drew1) | exact HB.out)⟩⟩
              case round =>
                clear H'
                try clear c1
                try clear c2
                try clear p2
                try clear c3
                try clear p3
                try clear q3
                try clear hx3
                try clear hcv3
                try clear c4
                try clear p4
                try clear q4
                try clear hx4
                try clear c6
                try clear c6b0
                try clear p6
                try clear c7
                try clear c7b0
                try clear p8
                try clear q8
                try clear hx8
                try clear c9
                try clear c10
                try clear c12
                try clear c12b0
                try clear c12b1
                try clear c13
                try clear c13b0
                try clear c14
                try clear c14b0
                try clear c14b1
                try clear c15
                try clear c15b0
                try clear c15b1
                try clear c16
                try clear c16b0
                try clear c16b1
                try clear c16b2
                try clear c18
                try clear c18b0
                try clear c18b1
                try clear c19
                try clear c20
                try clear c21
                try clear c21b0
                try clear c21b1
                try clear c22
                try clear c22b0
                try clear c22b1
                try clear c23
                try clear c23b0
                try clear c23b1
                try clear c24
                try clear c24b0
                try clear c24b1
                try clear c24b2
                try clear c29
                try clear c29b0
                try clear c30
                try clear c30b0
                try clear c31
                try clear c31b0
                try clear c34
                try clear c34b0
                try clear c34b1
                try clear c35
                try clear c35b0
                try clear c35b1
                try clear c35b2
                try clear p38
                try clear q38
                try clear hx38
                try clear hcv38
                try clear c39
                try clear c39b0
                try clear c40
                try clear c41
                try clear c41b0
                try clear p42
                try clear q42
                try clear hx42
                try clear hx386_0
                try clear p2
                try clear p3
                try clear p38
                try clear p386
                try clear p42
                try clear p6
                try clear p8
                try clear q3
                try clear q38
                try clear q386
                try clear q42
                try clear q8
                obtain ⟨x96_3, rfl, HA, HK3, HO_94, HB⟩ := hrel
                cases gk with
                | zero => exact absurd HA.out (by simp [abugidalaw07_OrderPlain.l3])
                | succ k3 =>
                  have H := HA.out
                  clear HA
                  simp only [abugidalaw07_OrderPlain.l3] at H
                  by_cases c48 : x96_3 < (t390.length : Int)
                  · rw [if_pos c48] at H
                    have c48b0 : decide (x96_3 < (t390.length : Int)) = true := decide_eq_true c48
                    clear c48
                    by_cases c49 : 0 ≤ x96_3
                    · rw [if_pos c49] at H
                      have c49b0 : decide (0 ≤ x96_3) = true := decide_eq_true c49
                      clear c49
                      by_cases c50 : x96_3 < (t390.length : Int)
                      · rw [if_pos c50] at H
                        have c50b0 : decide (x96_3 < (t390.length : Int)) = true := decide_eq_true c50
                        clear c50
                        by_cases c51 : (rd t390 x96_3) = 0
                        · rw [if_pos c51] at H
                          have c51b0 : ((rd t390 x96_3) == 0) = true := beq_iff_eq.mpr c51
                          have c51b1 : ((rd t390 x96_3) != 0) = false := bne_eq_false_iff_eq.mpr c51
                          clear c51
                          have H' := Aside0.mk H
                          clear H
                          have p393 : 0 ≤ (x96_3 : Int) := of_decide_eq_true (by first | (with_reducible assumption) | assumption)
                          have q393 : x96_3 < (t390.length : Int) := of_decide_eq_true (by first | (with_reducible assumption) | assumption)
                          obtain ⟨ad393, e393, hx393_0⟩ := Kd.at_int (Kd.R_reads' HO_94.out).2.2 x96_3 p393 q393
                          cases e393
                          replace p393 := eq_true p393
                          replace q393 := eq_true q393
                          go_wp2
                          go_roundg k3
                          case measure => have := HK1.out; have := HK2.out; have := HK3.out; omega
                          case rel => exact ⟨(wrap64 (x96_3 + 1)), (by first | rfl | (simp; done) | (simp [*]; done)), H', ⟨by have := HK1.out; have := HK2.out; have := HK3.out; omega⟩, ⟨by (with_reducible repeat (first | apply Kd.R_alloc | apply Kd.R_drewN | apply Kd.R_drew)); exact HO_94.out⟩, ⟨by repeat (first | (with_reducible first | exact HB.out | apply below_alloc | apply pw_below_drewN | apply below_drew1) | exact HB.out)⟩⟩
                        · rw [if_neg c51] at H
                          have c51b0 : ((rd t390 x96_3) == 0) = false := beq_eq_false_iff_ne.mpr c51
                          have c51b1 : ((rd t390 x96_3) != 0) = true := bne_iff_ne.mpr c51
                          obtain rfl := Option.some.inj H
                          have p393 : 0 ≤ (x96_3 : Int) := of_decide_eq_true (by first | (with_reducible assumption) | assumption)
                          have q393 : x96_3 < (t390.length : Int) := of_decide_eq_true (by first | (with_reducible assumption) | assumption)
                          obtain ⟨ad393, e393, hx393_0⟩ := Kd.at_int (Kd.R_reads' HO_94.out).2.2 x96_3 p393 q393
                          cases e393
                          replace p393 := eq_true p393
                          replace q393 := eq_true q393
                          go_wp2
                          go_ret
                          exact ⟨by first | rfl | (simp [errW_none, errW_some] <;> rfl) | (simp [*, errW_none, errW_some] <;> rfl), by repeat (first | (with_reducible first | exact HB.out | apply below_alloc | apply pw_below_drewN | apply below_drew1) | exact HB.out)⟩
                      · rw [if_neg c50] at H
                        exact absurd H (by simp)
                    · rw [if_neg c49] at H
                      exact absurd H (by simp)
                  · rw [if_neg c48] at H
                    have c48b0 : decide (x96_3 < (t390.length : Int)) = false := decide_eq_false c48
                    clear c48
                    replace H := Option.bind_eq_some_iff.mp H
                    obtain ⟨t394, A520, H⟩ := H
                    replace H : (abugidalaw07_OrderPlain.l4 k3 t377 t376 x4_1 x5_1 x6_1 x13_2 t394 (t394.length : Int) 0) = some r := H
                    have A52 := Aside0.mk A520
                    clear A520
                    have H' := Aside0.mk H
                    clear H
                    go_wp2_with (first | ((with_reducible refine gate_callee (f := 14) rfl ?_); refine goesL_ (some 104) rfl rfl Try.func14 (by kernel_rfl) rfl #[.string x5_1] rfl (by (try simp only [List.map_toArray, List.map_cons, List.map_nil]); first | done | rfl | (simp only [List.length_drop, List.length_take]; rfl)) ?_; (with_reducible refine (order_Levels.calls x5_1 t394 _ A52.out).mono ?_); rintro e w53 ⟨v395, rfl, ho0, hb⟩; refine ⟨_, rfl, ?_⟩; have n0_ := Aside0.mk (Kd.R_elder' (by (with_reducible repeat (first | apply Kd.R_alloc | apply Kd.R_drewN | apply Kd.R_drew)); exact HO_94.out) (Kd.R_base ho0) hb); have n1_ := Aside0.mk (Kd.R_lower (Kd.R_new' ho0 (Kd.R_lt (by (with_reducible repeat (first | apply Kd.R_alloc | apply Kd.R_drewN | apply Kd.R_drew)); exact HO_94.out))) (below_size (by repeat (first | (with_reducible first | exact HB.out | apply below_alloc | apply pw_below_drewN | apply below_drew1) | exact HB.out)))); have n2_ := Aside0.mk (below_step (by repeat (first | (with_reducible first | exact HB.out | apply below_alloc | apply pw_below_drewN | apply below_drew1) | exact HB.out)) hb); clear HO_94; clear HB; have HO_94 := n0_; have HO396 := n1_; have HB := n2_; clear n0_ n1_ n2_; (try clear hb); (try clear hb2); (try clear hk); (try clear hi); (try clear ho0); obtain ⟨Ao54, co54, eo54⟩ := Kd.R_slice HO396.out; subst eo54))
                    go_loopg [106] k3 (fun kq v106 w' => ∃ (x106_4 : Int), v106 = .int .i64 x106_4 ∧ Aside0 (abugidalaw07_OrderPlain.l4 kq t377 t376 x4_1 x5_1 x6_1 x13_2 t394 (t394.length : Int) x106_4 = some r) ∧ Aside0 (kq ≤ k3) ∧ Aside0 (Kd.R (Kd.int .i64) 3 w' w.heap.size (fun _ => True) (.slice Ao54 t394.length co54) t394) ∧ Aside0 (Below w.heap.size w w'))
                    case atStart => exact ⟨(0), (by first | rfl | (simp; done) | (simp [*]; done)), H', ⟨Nat.le_refl _⟩, ⟨by (with_reducible repeat (first | apply Kd.R_alloc | apply Kd.R_drewN | apply Kd.R_drew)); exact Kd.R_mono HO396.out (fun _ hk => trivial)⟩, ⟨by repeat (first | (with_reducible first | exact HB.out | apply below_alloc | apply pw_below_drewN | apply below_drew1) | exact HB.out)⟩⟩
                    case round =>
                      clear H'
                      try clear c1
                      try clear c2
                      try clear p2
                      try clear c3
                      try clear p3
                      try clear q3
                      try clear hx3
                      try clear hcv3
                      try clear c4
                      try clear p4
                      try clear q4
                      try clear hx4
                      try clear c5
                      try clear c6
                      try clear c6b0
                      try clear p6
                      try clear c7
                      try clear c7b0
                      try clear p8
                      try clear q8
                      try clear hx8
                      try clear c9
                      try clear c10
                      try clear c12
                      try clear c12b0
                      try clear c12b1
                      try clear c13
                      try clear c13b0
                      try clear c14
                      try clear c14b0
                      try clear c14b1
                      try clear c15
                      try clear c15b0
                      try clear c15b1
                      try clear c16
                      try clear c16b0
                      try clear c16b1
                      try clear c16b2
                      try clear c18
                      try clear c18b0
                      try clear c18b1
                      try clear c19
                      try clear c20
                      try clear c21
                      try clear c21b0
                      try clear c21b1
                      try clear c22
                      try clear c22b0
                      try clear c22b1
                      try clear c23
                      try clear c23b0
                      try clear c23b1
                      try clear c24
                      try clear c24b0
                      try clear c24b1
                      try clear c24b2
                      try clear c29
                      try clear c29b0
                      try clear c30
                      try clear c30b0
                      try clear c31
                      try clear c31b0
                      try clear c34
                      try clear c34b0
                      try clear c34b1
                      try clear c35
                      try clear c35b0
                      try clear c35b1
                      try clear c35b2
                      try clear p38
                      try clear q38
                      try clear hx38
                      try clear hcv38
                      try clear c39
                      try clear c39b0
                      try clear p39
                      try clear q39
                      try clear hx39
                      try clear c40
                      try clear c41
                      try clear c41b0
                      try clear p42
                      try clear q42
                      try clear hx42
                      try clear c48
                      try clear c48b0
                      try clear c49
                      try clear c49b0
                      try clear c50
                      try clear c50b0
                      try clear c51
                      try clear c51b0
                      try clear c51b1
                      try clear hx386_0
                      try clear hx393_0
                      try clear p2
                      try clear p3
                      try clear p38
                      try clear p386
                      try clear p393
                      try clear p4
                      try clear p42
                      try clear p6
                      try clear p8
                      try clear q3
                      try clear q38
                      try clear q386
                      try clear q393
                      try clear q4
                      try clear q42
                      try clear q8
                      obtain ⟨x106_4, rfl, HA, HK4, HO_104, HB⟩ := hrel
                      cases gk with
                      | zero => exact absurd HA.out (by simp [abugidalaw07_OrderPlain.l4])
                      | succ k4 =>
                        have H := HA.out
                        clear HA
                        simp only [abugidalaw07_OrderPlain.l4] at H
                        by_cases c55 : x106_4 < (t394.length : Int)
                        · rw [if_pos c55] at H
                          have c55b0 : decide (x106_4 < (t394.length : Int)) = true := decide_eq_true c55
                          clear c55
                          by_cases c56 : 0 ≤ x106_4
                          · rw [if_pos c56] at H
                            have c56b0 : decide (0 ≤ x106_4) = true := decide_eq_true c56
                            clear c56
                            by_cases c57 : x106_4 < (t394.length : Int)
                            · rw [if_pos c57] at H
                              have c57b0 : decide (x106_4 < (t394.length : Int)) = true := decide_eq_true c57
                              clear c57
                              by_cases c58 : (x13_2 != ((rd t394 x106_4) == 1)) = true
                              · rw [if_pos c58] at H
                                have c58b0 : (x13_2 != ((rd t394 x106_4) == 1)) = true := c58
                                (try (have c58b1 : decide (x13_2 = ((rd t394 x106_4) == 1)) = false := by simpa using c58))
                                (try (have c58b2 : (x13_2 == ((rd t394 x106_4) == 1)) = false := by simpa using c58))
                                (try (have c58b3 : ¬ (x13_2 = ((rd t394 x106_4) == 1)) := by simpa using c58))
                                clear c58
                                obtain rfl := Option.some.inj H
                                have p397 : 0 ≤ (x106_4 : Int) := of_decide_eq_true (by first | (with_reducible assumption) | assumption)
                                have q397 : x106_4 < (t394.length : Int) := of_decide_eq_true (by first | (with_reducible assumption) | assumption)
                                obtain ⟨ad397, e397, hx397_0⟩ := Kd.at_int (Kd.R_reads' HO_104.out).2.2 x106_4 p397 q397
                                cases e397
                                replace p397 := eq_true p397
                                replace q397 := eq_true q397
                                go_wp2
                                go_ret
                                exact ⟨by first | rfl | (simp [errW_none, errW_some] <;> rfl) | (simp [*, errW_none, errW_some] <;> rfl), by repeat (first | (with_reducible first | exact HB.out | apply below_alloc | apply pw_below_drewN | apply below_drew1) | exact HB.out)⟩
                              · rw [if_neg c58] at H
                                have c58b0 : (x13_2 != ((rd t394 x106_4) == 1)) = false := by simpa using c58
                                (try (have c58b1 : decide (x13_2 = ((rd t394 x106_4) == 1)) = true := by simpa using c58))
                                (try (have c58b2 : (x13_2 == ((rd t394 x106_4) == 1)) = true := by simpa using c58))
                                clear c58
                                have H' := Aside0.mk H
                                clear H
                                have p397 : 0 ≤ (x106_4 : Int) := of_decide_eq_true (by first | (with_reducible assumption) | assumption)
                                have q397 : x106_4 < (t394.length : Int) := of_decide_eq_true (by first | (with_reducible assumption) | assumption)
                                obtain ⟨ad397, e397, hx397_0⟩ := Kd.at_int (Kd.R_reads' HO_104.out).2.2 x106_4 p397 q397
                                cases e397
                                replace p397 := eq_true p397
                                replace q397 := eq_true q397
                                go_wp2
                                go_roundg k4
                                case measure => have := HK1.out; have := HK2.out; have := HK3.out; have := HK4.out; omega
                                case rel => exact ⟨(wrap64 (x106_4 + 1)), (by first | rfl | (simp; done) | (simp [*]; done)), H', ⟨by have := HK1.out; have := HK2.out; have := HK3.out; have := HK4.out; omega⟩, ⟨by (with_reducible repeat (first | apply Kd.R_alloc | apply Kd.R_drewN | apply Kd.R_drew)); exact HO_104.out⟩, ⟨by repeat (first | (with_reducible first | exact HB.out | apply below_alloc | apply pw_below_drewN | apply below_drew1) | exact HB.out)⟩⟩
                            · rw [if_neg c57] at H
                              exact absurd H (by simp)
                          · rw [if_neg c56] at H
                            exact absurd H (by simp)
                        · rw [if_neg c55] at H
                          have c55b0 : decide (x106_4 < (t394.length : Int)) = false := decide_eq_false c55
                          clear c55
                          by_cases c59 : t376 = true
                          · subst c59
                            have H1 : ((order_Right.f x4_1).bind fun t398 => (if t398 = true then (some false) else ((order_Right.f x5_1).bind fun t399 => (if (t399 == x13_2) = true then ((order_Levels.f x6_1).bind fun t400 => ((order_Levels.f t377).bind fun t403 => ((abugidaref07_Equal.f k4 t400 t403).bind fun t406 => (some t406)))) else (some false))))) = some r := by rw [if_pos rfl] at H; exact H
                            clear H
                            have H := H1
                            clear H1
                            replace H := Option.bind_eq_some_iff.mp H
                            obtain ⟨t398, A600, H⟩ := H
                            replace H : (if t398 = true then (some false) else ((order_Right.f x5_1).bind fun t399 => (if (t399 == x13_2) = true then ((order_Levels.f x6_1).bind fun t400 => ((order_Levels.f t377).bind fun t403 => ((abugidaref07_Equal.f k4 t400 t403).bind fun t406 => (some t406)))) else (some false)))) = some r := H
                            have A60 := Aside0.mk A600
                            clear A600
                            by_cases c61 : t398 = true
                            · subst c61
                              have H1 : (some false) = some r := by rw [if_pos rfl] at H; exact H
                              clear H
                              have H := H1
                              clear H1
                              obtain rfl := Option.some.inj H
                              go_wp2_with (first | (go_at_call 11; (with_reducible refine (order_Right.calls x4_1 true _ A60.out).mono ?_); rintro e w62 ⟨rfl, hb⟩; have n0_ := Aside0.mk (Kd.R_below (by (with_reducible repeat (first | apply Kd.R_alloc | apply Kd.R_drewN | apply Kd.R_drew)); exact HO_104.out) hb); have n1_ := Aside0.mk (below_step (by repeat (first | (with_reducible first | exact HB.out | apply below_alloc | apply pw_below_drewN | apply below_drew1) | exact HB.out)) hb); clear HO_104; clear HB; have HO_104 := n0_; have HB := n1_; clear n0_ n1_; (try clear hb); (try clear hb2); (try clear hk); (try clear hi)))
                              go_ret
                              exact ⟨by first | rfl | (simp [errW_none, errW_some] <;> rfl) | (simp [*, errW_none, errW_some] <;> rfl), by repeat (first | (with_reducible first | exact HB.out | apply below_alloc | apply pw_below_drewN | apply below_drew1) | exact HB.out)⟩
                            · replace c61 := Bool.eq_false_iff.mpr c61
                              subst c61
                              have H1 : ((order_Right.f x5_1).bind fun t399 => (if (t399 == x13_2) = true then ((order_Levels.f x6_1).bind fun t400 => ((order_Levels.f t377).bind fun t403 => ((abugidaref07_Equal.f k4 t400 t403).bind fun t406 => (some t406)))) else (some false))) = some r := by rw [if_neg (show ¬ (false = true) by decide)] at H; exact H
                              clear H
                              have H := H1
                              clear H1
                              replace H := Option.bind_eq_some_iff.mp H
                              obtain ⟨t399, A630, H⟩ := H
                              replace H : (if (t399 == x13_2) = true then ((order_Levels.f x6_1).bind fun t400 => ((order_Levels.f t377).bind fun t403 => ((abugidaref07_Equal.f k4 t400 t403).bind fun t406 => (some t406)))) else (some false)) = some r := H
                              have A63 := Aside0.mk A630
                              clear A630
                              by_cases c64 : (t399 == x13_2) = true
                              · rw [if_pos c64] at H
                                have c64b0 : (t399 == x13_2) = true := c64
                                (try (have c64b1 : decide (t399 = x13_2) = true := by simpa using c64))
                                (try (have c64b2 : (t399 == x13_2) = true := by simpa using c64))
                                clear c64
                                replace H := Option.bind_eq_some_iff.mp H
                                obtain ⟨t400, A650, H⟩ := H
                                replace H : ((order_Levels.f t377).bind fun t403 => ((abugidaref07_Equal.f k4 t400 t403).bind fun t406 => (some t406))) = some r := H
                                have A65 := Aside0.mk A650
                                clear A650
                                replace H := Option.bind_eq_some_iff.mp H
                                obtain ⟨t403, A660, H⟩ := H
                                replace H : ((abugidaref07_Equal.f k4 t400 t403).bind fun t406 => (some t406)) = some r := H
                                have A66 := Aside0.mk A660
                                clear A660
                                replace H := Option.bind_eq_some_iff.mp H
                                obtain ⟨t406, A670, H⟩ := H
                                replace H : (some t406) = some r := H
                                have A67 := Aside0.mk A670
                                clear A670
                                obtain rfl := Option.some.inj H
                                go_wp2_with (first | (go_at_call 11; (with_reducible refine (order_Right.calls x4_1 false _ A60.out).mono ?_); rintro e w68 ⟨rfl, hb⟩; have n0_ := Aside0.mk (Kd.R_below (by (with_reducible repeat (first | apply Kd.R_alloc | apply Kd.R_drewN | apply Kd.R_drew)); exact HO_104.out) hb); have n1_ := Aside0.mk (below_step (by repeat (first | (with_reducible first | exact HB.out | apply below_alloc | apply pw_below_drewN | apply below_drew1) | exact HB.out)) hb); clear HO_104; clear HB; have HO_104 := n0_; have HB := n1_; clear n0_ n1_; (try clear hb); (try clear hb2); (try clear hk); (try clear hi)) | (go_at_call 11; (with_reducible refine (order_Right.calls x5_1 t399 _ A63.out).mono ?_); rintro e w69 ⟨rfl, hb⟩; have n0_ := Aside0.mk (Kd.R_below (by (with_reducible repeat (first | apply Kd.R_alloc | apply Kd.R_drewN | apply Kd.R_drew)); exact HO_104.out) hb); have n1_ := Aside0.mk (below_step (by repeat (first | (with_reducible first | exact HB.out | apply below_alloc | apply pw_below_drewN | apply below_drew1) | exact HB.out)) hb); clear HO_104; clear HB; have HO_104 := n0_; have HB := n1_; clear n0_ n1_; (try clear hb); (try clear hb2); (try clear hk); (try clear hi)) | (go_at_call 14; (with_reducible refine (order_Levels.calls x6_1 t400 _ A65.out).mono ?_); rintro e w70 ⟨v401, rfl, ho0, hb⟩; have n0_ := Aside0.mk (Kd.R_elder' (by (with_reducible repeat (first | apply Kd.R_alloc | apply Kd.R_drewN | apply Kd.R_drew)); exact HO_104.out) (Kd.R_base ho0) hb); have n1_ := Aside0.mk (Kd.R_lower (Kd.R_new' ho0 (Kd.R_lt (by (with_reducible repeat (first | apply Kd.R_alloc | apply Kd.R_drewN | apply Kd.R_drew)); exact HO_104.out))) (below_size (by repeat (first | (with_reducible first | exact HB.out | apply below_alloc | apply pw_below_drewN | apply below_drew1) | exact HB.out)))); have n2_ := Aside0.mk (below_step (by repeat (first | (with_reducible first | exact HB.out | apply below_alloc | apply pw_below_drewN | apply below_drew1) | exact HB.out)) hb); clear HO_104; clear HB; have HO_104 := n0_; have HO402 := n1_; have HB := n2_; clear n0_ n1_ n2_; (try clear hb); (try clear hb2); (try clear hk); (try clear hi); (try clear ho0)) | (go_at_call 14; (with_reducible refine (order_Levels.calls t377 t403 _ A66.out).mono ?_); rintro e w71 ⟨v404, rfl, ho0, hb⟩; have n0_ := Aside0.mk (Kd.R_elder' (by (with_reducible repeat (first | apply Kd.R_alloc | apply Kd.R_drewN | apply Kd.R_drew)); exact HO_104.out) (Kd.R_base ho0) hb); have n1_ := Aside0.mk (Kd.R_elder' (by (with_reducible repeat (first | apply Kd.R_alloc | apply Kd.R_drewN | apply Kd.R_drew)); exact HO402.out) (Kd.R_base ho0) hb); have n2_ := Aside0.mk (Kd.R_lower (Kd.R_new' (Kd.R_new' ho0 (Kd.R_lt (by (with_reducible repeat (first | apply Kd.R_alloc | apply Kd.R_drewN | apply Kd.R_drew)); exact HO_104.out))) (Kd.R_lt (by (with_reducible repeat (first | apply Kd.R_alloc | apply Kd.R_drewN | apply Kd.R_drew)); exact HO402.out))) (below_size (by repeat (first | (with_reducible first | exact HB.out | apply below_alloc | apply pw_below_drewN | apply below_drew1) | exact HB.out)))); have n3_ := Aside0.mk (below_step (by repeat (first | (with_reducible first | exact HB.out | apply below_alloc | apply pw_below_drewN | apply below_drew1) | exact HB.out)) hb); clear HO_104; clear HO402; clear HB; have HO_104 := n0_; have HO402 := n1_; have HO405 := n2_; have HB := n3_; clear n0_ n1_ n2_ n3_; (try clear hb); (try clear hb2); (try clear hk); (try clear hi); (try clear ho0); obtain ⟨Ao72, co72, eo72⟩ := Kd.R_slice HO402.out; subst eo72; obtain ⟨Ao73, co73, eo73⟩ := Kd.R_slice HO405.out; subst eo73) | (go_at_call 13; (with_reducible refine (abugidaref07_Equal.calls k4 _ _ t400 _ _ t403 t406 _ ?side1 ?side2 ?side3 ?side4 A67.out).mono ?_); (case side1 => repeat (first | exact (Kd.R_reads' HO402.out).2.2 | (with_reducible refine Kd.C_alloc ?_ _) | (with_reducible refine Kd.C_drewN ?_ _) | (with_reducible refine Kd.C_drew ?_))); (case side2 => exact (Kd.R_reads' HO402.out).2.1); (case side3 => repeat (first | exact (Kd.R_reads' HO405.out).2.2 | (with_reducible refine Kd.C_alloc ?_ _) | (with_reducible refine Kd.C_drewN ?_ _) | (with_reducible refine Kd.C_drew ?_))); (case side4 => exact (Kd.R_reads' HO405.out).2.1); rintro e w' ⟨rfl, ⟨nd, rfl⟩⟩))
                                go_ret
                                exact ⟨by first | rfl | (simp [errW_none, errW_some] <;> rfl) | (simp [*, errW_none, errW_some] <;> rfl), by repeat (first | (with_reducible first | exact HB.out | apply below_alloc | apply pw_below_drewN | apply below_drew1) | exact HB.out)⟩
                              · rw [if_neg c64] at H
                                have c64b0 : (t399 == x13_2) = false := by simpa using c64
                                (try (have c64b1 : decide (t399 = x13_2) = false := by simpa using c64))
                                (try (have c64b2 : (t399 == x13_2) = false := by simpa using c64))
                                (try (have c64b3 : ¬ (t399 = x13_2) := by simpa using c64))
                                clear c64
                                obtain rfl := Option.some.inj H
                                go_wp2_with (first | (go_at_call 11; (with_reducible refine (order_Right.calls x4_1 false _ A60.out).mono ?_); rintro e w74 ⟨rfl, hb⟩; have n0_ := Aside0.mk (Kd.R_below (by (with_reducible repeat (first | apply Kd.R_alloc | apply Kd.R_drewN | apply Kd.R_drew)); exact HO_104.out) hb); have n1_ := Aside0.mk (below_step (by repeat (first | (with_reducible first | exact HB.out | apply below_alloc | apply pw_below_drewN | apply below_drew1) | exact HB.out)) hb); clear HO_104; clear HB; have HO_104 := n0_; have HB := n1_; clear n0_ n1_; (try clear hb); (try clear hb2); (try clear hk); (try clear hi)) | (go_at_call 11; (with_reducible refine (order_Right.calls x5_1 t399 _ A63.out).mono ?_); rintro e w75 ⟨rfl, hb⟩; have n0_ := Aside0.mk (Kd.R_below (by (with_reducible repeat (first | apply Kd.R_alloc | apply Kd.R_drewN | apply Kd.R_drew)); exact HO_104.out) hb); have n1_ := Aside0.mk (below_step (by repeat (first | (with_reducible first | exact HB.out | apply below_alloc | apply pw_below_drewN | apply below_drew1) | exact HB.out)) hb); clear HO_104; clear HB; have HO_104 := n0_; have HB := n1_; clear n0_ n1_; (try clear hb); (try clear hb2); (try clear hk); (try clear hi)))
                                go_ret
                                exact ⟨by first | rfl | (simp [errW_none, errW_some] <;> rfl) | (simp [*, errW_none, errW_some] <;> rfl), by repeat (first | (with_reducible first | exact HB.out | apply below_alloc | apply pw_below_drewN | apply below_drew1) | exact HB.out)⟩
                          · replace c59 := Bool.eq_false_iff.mpr c59
                            subst c59
                            have H1 : (some false) = some r := by rw [if_neg (show ¬ (false = true) by decide)] at H; exact H
                            clear H
                            have H := H1
                            clear H1
                            obtain rfl := Option.some.inj H
                            go_wp2
                            go_ret
                            exact ⟨by first | rfl | (simp [errW_none, errW_some] <;> rfl) | (simp [*, errW_none, errW_some] <;> rfl), by repeat (first | (with_reducible first | exact HB.out | apply below_alloc | apply pw_below_drewN | apply below_drew1) | exact HB.out)⟩

/-- THE ONE PURE STATEMENT of abugidalaw07_OrderPlain: yours. -/
def abugidalaw07_OrderPlain.Pure : Prop := ∀ (a0 : ByteArray), a0.size ≤ 140737488351232 → ∃ k, abugidalaw07_OrderPlain.f k a0 = some true
theorem abugidalaw07_OrderPlain.walk (P : abugidalaw07_OrderPlain.Pure) (a0 : ByteArray) (w : World) (w0 : a0.size ≤ 140737488351232) :
    Calls Try.prog 4 #[.string a0] w fun e w' => e = .returned (.bool true) ∧ Below w.heap.size w w' := by
  obtain ⟨k, h⟩ := P a0 w0
  refine (abugidalaw07_OrderPlain.calls k a0 true w h).mono ?_
  rintro e w' ⟨rfl, hd⟩
  exact ⟨rfl, hd⟩

end Go.Proofs.Ytacnckneiklgpaa.Q

-- Written by wip/tools/myprint.py, a program of this session that drives the kit's print.py; not a text of print.sh.
import Derived.Test.YtacnckneiklgpaaQx0
import Derived.Test.YtacnckneiklgpaaQx9
import Derived.Test.YtacnckneiklgpaaQx14
import Derived.Test.YtacnckneiklgpaaQx15
namespace Go.Proofs.Ytacnckneiklgpaa.Q
open Go.RowKit Go.Proofs.YtacnckneiklgpaaW.PrintWords Go.Proofs.YtacnckneiklgpaaW.PrintLast Go.Proofs.YtacnckneiklgpaaW.PrintMore
attribute [local go_sem] max2_int min2_int max_two min_two max_three min_three max_four min_four   -- for this text's walks alone
set_option linter.unusedVariables false
set_option linter.unusedSimpArgs false

/-! ### abugidalaw07_OrderApart: function 8 -/
mutual
def abugidalaw07_OrderApart.j0 : Nat → ByteArray → ByteArray → Bool → List Int → Bool → Option (Bool)
  | 0, _, _, _, _, _ => none
  | k + 1, x0, x1, x5, x6, x46 => if x46 = true then (some false) else (if x0.size + 1 ≤ 9223372036854775807 then (if (x0 ++ (⟨#[10]⟩ : ByteArray)).size + x1.size ≤ 9223372036854775807 then ((order_Right.f ((x0 ++ (⟨#[10]⟩ : ByteArray)) ++ x1)).bind fun t496 => (if t496 = true then (abugidalaw07_OrderApart.j1 k x0 x1 x5 x6 1) else (abugidalaw07_OrderApart.j1 k x0 x1 x5 x6 0))) else (none)) else (none))
def abugidalaw07_OrderApart.j1 : Nat → ByteArray → ByteArray → Bool → List Int → Int → Option (Bool)
  | 0, _, _, _, _, _ => none
  | k + 1, x0, x1, x5, x6, x8 => abugidalaw07_OrderApart.l0 k x0 x1 x5 x6 x8 false 0
def abugidalaw07_OrderApart.l0 : Nat → ByteArray → ByteArray → Bool → List Int → Int → Bool → Int → Option (Bool)
  | 0, _, _, _, _, _, _, _ => none
  | k + 1, x0, x1, x5, x6, x8, x9, x10 => if x10 < (x0.size : Int) then (if 0 ≤ x10 then ((abugidaref05_Strong.f k (wrap64 (bt x0 x10))).bind fun t497 => (if x9 = true then (abugidalaw07_OrderApart.l0 k x0 x1 x5 x6 x8 true (wrap64 (x10 + 1))) else (if t497 = 1 then (abugidalaw07_OrderApart.l0 k x0 x1 x5 x6 x8 true (wrap64 (x10 + 1))) else (abugidalaw07_OrderApart.l0 k x0 x1 x5 x6 x8 (t497 == 2) (wrap64 (x10 + 1)))))) else (none)) else (if x9 = true then ((order_Right.f x0).bind fun t498 => (if x0.size + 1 ≤ 9223372036854775807 then (if (x0 ++ (⟨#[10]⟩ : ByteArray)).size + x1.size ≤ 9223372036854775807 then ((order_Right.f ((x0 ++ (⟨#[10]⟩ : ByteArray)) ++ x1)).bind fun t499 => (if (t498 != t499) = true then (some false) else (if 0 ≤ (x0.size : Int) then (if (x0.size : Int) < (x6.length : Int) then (if x5 = true then (if x8 = 0 then (if (rd x6 (x0.size : Int)) = 0 then (some true) else (if x8 = 1 then (some ((rd x6 (x0.size : Int)) == 1)) else (some false))) else (if x8 = 1 then (some ((rd x6 (x0.size : Int)) == 1)) else (some false))) else (some false)) else (none)) else (none)))) else (none)) else (none))) else (if 0 ≤ (x0.size : Int) then (if (x0.size : Int) < (x6.length : Int) then (if x5 = true then (if x8 = 0 then (if (rd x6 (x0.size : Int)) = 0 then (some true) else (if x8 = 1 then (some ((rd x6 (x0.size : Int)) == 1)) else (some false))) else (if x8 = 1 then (some ((rd x6 (x0.size : Int)) == 1)) else (some false))) else (some false)) else (none)) else (none)))
end
def abugidalaw07_OrderApart.f (k : Nat) (a0 : ByteArray) (a1 : ByteArray) : Option (Bool) := (abugidalaw07_sanity.f k).bind fun t489 => (if 0 ≤ (mn (a0.size : Int) 60) then (if (mn (a0.size : Int) 60) ≤ (a0.size : Int) then (if 0 ≤ (mn (a1.size : Int) 60) then (if (mn (a1.size : Int) 60) ≤ (a1.size : Int) then (if (a0.extract 0 ((mn (a0.size : Int) 60) : Int).toNat).size + 1 ≤ 9223372036854775807 then (if ((a0.extract 0 ((mn (a0.size : Int) 60) : Int).toNat) ++ (⟨#[10]⟩ : ByteArray)).size + (a1.extract 0 ((mn (a1.size : Int) 60) : Int).toNat).size ≤ 9223372036854775807 then ((order_Levels.f (((a0.extract 0 ((mn (a0.size : Int) 60) : Int).toNat) ++ (⟨#[10]⟩ : ByteArray)) ++ (a1.extract 0 ((mn (a1.size : Int) 60) : Int).toNat))).bind fun t490 => ((order_Levels.f (a0.extract 0 ((mn (a0.size : Int) 60) : Int).toNat)).bind fun t493 => (if (t490.length : Int) = (wrap64 ((wrap64 (((a0.extract 0 ((mn (a0.size : Int) 60) : Int).toNat).size : Int) + 1)) + ((a1.extract 0 ((mn (a1.size : Int) 60) : Int).toNat).size : Int))) then (abugidalaw07_OrderApart.j0 k (a0.extract 0 ((mn (a0.size : Int) 60) : Int).toNat) (a1.extract 0 ((mn (a1.size : Int) 60) : Int).toNat) t489 t490 ((t493.length : Int) != ((a0.extract 0 ((mn (a0.size : Int) 60) : Int).toNat).size : Int))) else (abugidalaw07_OrderApart.j0 k (a0.extract 0 ((mn (a0.size : Int) 60) : Int).toNat) (a1.extract 0 ((mn (a1.size : Int) 60) : Int).toNat) t489 t490 true)))) else (none)) else (none)) else (none)) else (none)) else (none)) else (none))
theorem abugidalaw07_OrderApart.mono_l : ∀ k, (∀ y0 y1 y2 y3 y4, LeO (abugidalaw07_OrderApart.j0 k y0 y1 y2 y3 y4) (abugidalaw07_OrderApart.j0 (k + 1) y0 y1 y2 y3 y4)) ∧ (∀ y0 y1 y2 y3 y4, LeO (abugidalaw07_OrderApart.j1 k y0 y1 y2 y3 y4) (abugidalaw07_OrderApart.j1 (k + 1) y0 y1 y2 y3 y4)) ∧ (∀ y0 y1 y2 y3 y4 y5 y6, LeO (abugidalaw07_OrderApart.l0 k y0 y1 y2 y3 y4 y5 y6) (abugidalaw07_OrderApart.l0 (k + 1) y0 y1 y2 y3 y4 y5 y6))
  | 0 => ⟨fun _ _ _ _ _ r h => by simp [abugidalaw07_OrderApart.j0] at h, fun _ _ _ _ _ r h => by simp [abugidalaw07_OrderApart.j1] at h, fun _ _ _ _ _ _ _ r h => by simp [abugidalaw07_OrderApart.l0] at h⟩
  | k + 1 => by
    obtain ⟨ih0, ih1, ih2⟩ := abugidalaw07_OrderApart.mono_l k
    refine ⟨?_, ?_, ?_⟩
    · intro y0 y1 y2 y3 y4
      unfold abugidalaw07_OrderApart.j0
      repeat' first
      | (with_reducible exact ih0 _ _ _ _ _)
      | (with_reducible exact ih1 _ _ _ _ _)
      | (with_reducible exact ih2 _ _ _ _ _ _ _)
      | (with_reducible exact abugidalaw07_sanity.mono _)
      | (with_reducible exact abugidaref05_Strong.mono _ _)
      | (with_reducible exact LeO.refl _)
      | (with_reducible exact LeO.none _)
      | (with_reducible refine LeO.ite ?_ ?_)
      | (with_reducible refine LeO.bind ?_ (fun _ => ?_))
      | exact ih0 _ _ _ _ _
      | exact ih1 _ _ _ _ _
      | exact ih2 _ _ _ _ _ _ _
      | exact abugidalaw07_sanity.mono _
      | exact abugidaref05_Strong.mono _ _
      | exact LeO.none _
      | refine LeO.ite ?_ ?_
      | refine LeO.bind ?_ (fun _ => ?_)
    · intro y0 y1 y2 y3 y4
      unfold abugidalaw07_OrderApart.j1
      repeat' first
      | (with_reducible exact ih0 _ _ _ _ _)
      | (with_reducible exact ih1 _ _ _ _ _)
      | (with_reducible exact ih2 _ _ _ _ _ _ _)
      | (with_reducible exact abugidalaw07_sanity.mono _)
      | (with_reducible exact abugidaref05_Strong.mono _ _)
      | (with_reducible exact LeO.refl _)
      | (with_reducible exact LeO.none _)
      | (with_reducible refine LeO.ite ?_ ?_)
      | (with_reducible refine LeO.bind ?_ (fun _ => ?_))
      | exact ih0 _ _ _ _ _
      | exact ih1 _ _ _ _ _
      | exact ih2 _ _ _ _ _ _ _
      | exact abugidalaw07_sanity.mono _
      | exact abugidaref05_Strong.mono _ _
      | exact LeO.none _
      | refine LeO.ite ?_ ?_
      | refine LeO.bind ?_ (fun _ => ?_)
    · intro y0 y1 y2 y3 y4 y5 y6
      unfold abugidalaw07_OrderApart.l0
      repeat' first
      | (with_reducible exact ih0 _ _ _ _ _)
      | (with_reducible exact ih1 _ _ _ _ _)
      | (with_reducible exact ih2 _ _ _ _ _ _ _)
      | (with_reducible exact abugidalaw07_sanity.mono _)
      | (with_reducible exact abugidaref05_Strong.mono _ _)
      | (with_reducible exact LeO.refl _)
      | (with_reducible exact LeO.none _)
      | (with_reducible refine LeO.ite ?_ ?_)
      | (with_reducible refine LeO.bind ?_ (fun _ => ?_))
      | exact ih0 _ _ _ _ _
      | exact ih1 _ _ _ _ _
      | exact ih2 _ _ _ _ _ _ _
      | exact abugidalaw07_sanity.mono _
      | exact abugidaref05_Strong.mono _ _
      | exact LeO.none _
      | refine LeO.ite ?_ ?_
      | refine LeO.bind ?_ (fun _ => ?_)
theorem abugidalaw07_OrderApart.mono : ∀ a0 a1 k, LeO (abugidalaw07_OrderApart.f k a0 a1) (abugidalaw07_OrderApart.f (k + 1) a0 a1) := by
  intro a0 a1 k
  obtain ⟨ih0, ih1, ih2⟩ := abugidalaw07_OrderApart.mono_l k
  unfold abugidalaw07_OrderApart.f
  repeat' first
      | (with_reducible exact ih0 _ _ _ _ _)
      | (with_reducible exact ih1 _ _ _ _ _)
      | (with_reducible exact ih2 _ _ _ _ _ _ _)
      | (with_reducible exact abugidalaw07_sanity.mono _)
      | (with_reducible exact abugidaref05_Strong.mono _ _)
      | (with_reducible exact LeO.refl _)
      | (with_reducible exact LeO.none _)
      | (with_reducible refine LeO.ite ?_ ?_)
      | (with_reducible refine LeO.bind ?_ (fun _ => ?_))
      | exact ih0 _ _ _ _ _
      | exact ih1 _ _ _ _ _
      | exact ih2 _ _ _ _ _ _ _
      | exact abugidalaw07_sanity.mono _
      | exact abugidaref05_Strong.mono _ _
      | exact LeO.none _
      | refine LeO.ite ?_ ?_
      | refine LeO.bind ?_ (fun _ => ?_)
set_option maxHeartbeats 8000000 in
set_option maxRecDepth 100000 in
theorem abugidalaw07_OrderApart.calls (k : Nat) (a0 : ByteArray) (a1 : ByteArray) (r : Bool) (w : World) (h : abugidalaw07_OrderApart.f k a0 a1 = some r) :
    Calls Try.prog 8 #[.string a0, .string a1] w fun e w' => e = .returned (.bool r) ∧ Below w.heap.size w w' := by
  have HB := Aside0.mk (Below.refl w.heap.size w)
  have H : ((abugidalaw07_sanity.f k).bind fun t489 => (if 0 ≤ (mn (a0.size : Int) 60) then (if (mn (a0.size : Int) 60) ≤ (a0.size : Int) then (if 0 ≤ (mn (a1.size : Int) 60) then (if (mn (a1.size : Int) 60) ≤ (a1.size : Int) then (if (a0.extract 0 ((mn (a0.size : Int) 60) : Int).toNat).size + 1 ≤ 9223372036854775807 then (if ((a0.extract 0 ((mn (a0.size : Int) 60) : Int).toNat) ++ (⟨#[10]⟩ : ByteArray)).size + (a1.extract 0 ((mn (a1.size : Int) 60) : Int).toNat).size ≤ 9223372036854775807 then ((order_Levels.f (((a0.extract 0 ((mn (a0.size : Int) 60) : Int).toNat) ++ (⟨#[10]⟩ : ByteArray)) ++ (a1.extract 0 ((mn (a1.size : Int) 60) : Int).toNat))).bind fun t490 => ((order_Levels.f (a0.extract 0 ((mn (a0.size : Int) 60) : Int).toNat)).bind fun t493 => (if (t490.length : Int) = (wrap64 ((wrap64 (((a0.extract 0 ((mn (a0.size : Int) 60) : Int).toNat).size : Int) + 1)) + ((a1.extract 0 ((mn (a1.size : Int) 60) : Int).toNat).size : Int))) then (abugidalaw07_OrderApart.j0 k (a0.extract 0 ((mn (a0.size : Int) 60) : Int).toNat) (a1.extract 0 ((mn (a1.size : Int) 60) : Int).toNat) t489 t490 ((t493.length : Int) != ((a0.extract 0 ((mn (a0.size : Int) 60) : Int).toNat).size : Int))) else (abugidalaw07_OrderApart.j0 k (a0.extract 0 ((mn (a0.size : Int) 60) : Int).toNat) (a1.extract 0 ((mn (a1.size : Int) 60) : Int).toNat) t489 t490 true)))) else (none)) else (none)) else (none)) else (none)) else (none)) else (none))) = some r := h
  clear h
  replace H := Option.bind_eq_some_iff.mp H
  obtain ⟨t489, A30, H⟩ := H
  replace H : (if 0 ≤ (mn (a0.size : Int) 60) then (if (mn (a0.size : Int) 60) ≤ (a0.size : Int) then (if 0 ≤ (mn (a1.size : Int) 60) then (if (mn (a1.size : Int) 60) ≤ (a1.size : Int) then (if (a0.extract 0 ((mn (a0.size : Int) 60) : Int).toNat).size + 1 ≤ 9223372036854775807 then (if ((a0.extract 0 ((mn (a0.size : Int) 60) : Int).toNat) ++ (⟨#[10]⟩ : ByteArray)).size + (a1.extract 0 ((mn (a1.size : Int) 60) : Int).toNat).size ≤ 9223372036854775807 then ((order_Levels.f (((a0.extract 0 ((mn (a0.size : Int) 60) : Int).toNat) ++ (⟨#[10]⟩ : ByteArray)) ++ (a1.extract 0 ((mn (a1.size : Int) 60) : Int).toNat))).bind fun t490 => ((order_Levels.f (a0.extract 0 ((mn (a0.size : Int) 60) : Int).toNat)).bind fun t493 => (if (t490.length : Int) = (wrap64 ((wrap64 (((a0.extract 0 ((mn (a0.size : Int) 60) : Int).toNat).size : Int) + 1)) + ((a1.extract 0 ((mn (a1.size : Int) 60) : Int).toNat).size : Int))) then (abugidalaw07_OrderApart.j0 k (a0.extract 0 ((mn (a0.size : Int) 60) : Int).toNat) (a1.extract 0 ((mn (a1.size : Int) 60) : Int).toNat) t489 t490 ((t493.length : Int) != ((a0.extract 0 ((mn (a0.size : Int) 60) : Int).toNat).size : Int))) else (abugidalaw07_OrderApart.j0 k (a0.extract 0 ((mn (a0.size : Int) 60) : Int).toNat) (a1.extract 0 ((mn (a1.size : Int) 60) : Int).toNat) t489 t490 true)))) else (none)) else (none)) else (none)) else (none)) else (none)) else (none)) = some r := H
  have A3 := Aside0.mk A30
  clear A30
  obtain ⟨ji4, hji4⟩ : ∃ j_ : Int, (mn (a0.size : Int) 60) = j_ := ⟨_, rfl⟩
  replace H : (if 0 ≤ (ji4) then (if (ji4) ≤ (a0.size : Int) then (if 0 ≤ (mn (a1.size : Int) 60) then (if (mn (a1.size : Int) 60) ≤ (a1.size : Int) then (if (a0.extract 0 ((ji4) : Int).toNat).size + 1 ≤ 9223372036854775807 then (if ((a0.extract 0 ((ji4) : Int).toNat) ++ (⟨#[10]⟩ : ByteArray)).size + (a1.extract 0 ((mn (a1.size : Int) 60) : Int).toNat).size ≤ 9223372036854775807 then ((order_Levels.f (((a0.extract 0 ((ji4) : Int).toNat) ++ (⟨#[10]⟩ : ByteArray)) ++ (a1.extract 0 ((mn (a1.size : Int) 60) : Int).toNat))).bind fun t490 => ((order_Levels.f (a0.extract 0 ((ji4) : Int).toNat)).bind fun t493 => (if (t490.length : Int) = (wrap64 ((wrap64 (((a0.extract 0 ((ji4) : Int).toNat).size : Int) + 1)) + ((a1.extract 0 ((mn (a1.size : Int) 60) : Int).toNat).size : Int))) then (abugidalaw07_OrderApart.j0 k (a0.extract 0 ((ji4) : Int).toNat) (a1.extract 0 ((mn (a1.size : Int) 60) : Int).toNat) t489 t490 ((t493.length : Int) != ((a0.extract 0 ((ji4) : Int).toNat).size : Int))) else (abugidalaw07_OrderApart.j0 k (a0.extract 0 ((ji4) : Int).toNat) (a1.extract 0 ((mn (a1.size : Int) 60) : Int).toNat) t489 t490 true)))) else (none)) else (none)) else (none)) else (none)) else (none)) else (none)) = some r := by first | (rw [hji4] at H; exact H) | (simp only [hji4] at H ⊢; exact H)
  (try rw [hji4] at A3)
  (try (have hji4h : ji4 ≤ 60 := by (rw [← hji4]; unfold mn; (repeat' split) <;> omega)))
  (try (have hji4g : ji4 ≤ 64 := by omega))
  (try (have hji4l : 0 ≤ ji4 := by (rw [← hji4]; unfold mn; (repeat' split) <;> omega)))
  (try (have hji4m : 0 ≤ ji4 := by omega))
  have hji4_ : (if 60 < (a0.size : Int) then 60 else (a0.size : Int)) = ji4 := hji4
  by_cases c5 : 0 ≤ (ji4)
  · rw [if_pos c5] at H
    have c5b0 := eq_true c5
    have c5b1 : decide (0 ≤ (ji4)) = true := decide_eq_true c5
    clear c5
    by_cases c6 : (ji4) ≤ (a0.size : Int)
    · rw [if_pos c6] at H
      have c6b0 := eq_true c6
      have c6b1 : decide ((ji4) ≤ (a0.size : Int)) = true := decide_eq_true c6
      clear c6
      obtain ⟨ji7, hji7⟩ : ∃ j_ : Int, (mn (a1.size : Int) 60) = j_ := ⟨_, rfl⟩
      replace H : (if 0 ≤ (ji7) then (if (ji7) ≤ (a1.size : Int) then (if (a0.extract 0 ((ji4) : Int).toNat).size + 1 ≤ 9223372036854775807 then (if ((a0.extract 0 ((ji4) : Int).toNat) ++ (⟨#[10]⟩ : ByteArray)).size + (a1.extract 0 ((ji7) : Int).toNat).size ≤ 9223372036854775807 then ((order_Levels.f (((a0.extract 0 ((ji4) : Int).toNat) ++ (⟨#[10]⟩ : ByteArray)) ++ (a1.extract 0 ((ji7) : Int).toNat))).bind fun t490 => ((order_Levels.f (a0.extract 0 ((ji4) : Int).toNat)).bind fun t493 => (if (t490.length : Int) = (wrap64 ((wrap64 (((a0.extract 0 ((ji4) : Int).toNat).size : Int) + 1)) + ((a1.extract 0 ((ji7) : Int).toNat).size : Int))) then (abugidalaw07_OrderApart.j0 k (a0.extract 0 ((ji4) : Int).toNat) (a1.extract 0 ((ji7) : Int).toNat) t489 t490 ((t493.length : Int) != ((a0.extract 0 ((ji4) : Int).toNat).size : Int))) else (abugidalaw07_OrderApart.j0 k (a0.extract 0 ((ji4) : Int).toNat) (a1.extract 0 ((ji7) : Int).toNat) t489 t490 true)))) else (none)) else (none)) else (none)) else (none)) = some r := by first | (rw [hji7] at H; exact H) | (simp only [hji7] at H ⊢; exact H)
      (try rw [hji7] at A3)
      (try (have hji7h : ji7 ≤ 60 := by (rw [← hji7]; unfold mn; (repeat' split) <;> omega)))
      (try (have hji7g : ji7 ≤ 64 := by omega))
      (try (have hji7l : 0 ≤ ji7 := by (rw [← hji7]; unfold mn; (repeat' split) <;> omega)))
      (try (have hji7m : 0 ≤ ji7 := by omega))
      have hji7_ : (if 60 < (a1.size : Int) then 60 else (a1.size : Int)) = ji7 := hji7
      by_cases c8 : 0 ≤ (ji7)
      · rw [if_pos c8] at H
        have c8b0 := eq_true c8
        have c8b1 : decide (0 ≤ (ji7)) = true := decide_eq_true c8
        clear c8
        by_cases c9 : (ji7) ≤ (a1.size : Int)
        · rw [if_pos c9] at H
          have c9b0 := eq_true c9
          have c9b1 : decide ((ji7) ≤ (a1.size : Int)) = true := decide_eq_true c9
          clear c9
          by_cases c10 : (a0.extract 0 ((ji4) : Int).toNat).size + 1 ≤ 9223372036854775807
          · rw [if_pos c10] at H
            have c10b0 := eq_true c10
            have c10b1 : decide ((a0.extract 0 ((ji4) : Int).toNat).size + 1 ≤ 9223372036854775807) = true := decide_eq_true c10
            try have c10b2 : (9223372036854775807 < (a0.extract 0 ((ji4) : Int).toNat).size + 1) = False := eq_false (Nat.not_lt.2 c10)
            by_cases c11 : ((a0.extract 0 ((ji4) : Int).toNat) ++ (⟨#[10]⟩ : ByteArray)).size + (a1.extract 0 ((ji7) : Int).toNat).size ≤ 9223372036854775807
            · rw [if_pos c11] at H
              have c11b0 := eq_true c11
              have c11b1 : decide (((a0.extract 0 ((ji4) : Int).toNat) ++ (⟨#[10]⟩ : ByteArray)).size + (a1.extract 0 ((ji7) : Int).toNat).size ≤ 9223372036854775807) = true := decide_eq_true c11
              try have c11b2 : (9223372036854775807 < ((a0.extract 0 ((ji4) : Int).toNat) ++ (⟨#[10]⟩ : ByteArray)).size + (a1.extract 0 ((ji7) : Int).toNat).size) = False := eq_false (Nat.not_lt.2 c11)
              replace H := Option.bind_eq_some_iff.mp H
              obtain ⟨t490, A120, H⟩ := H
              replace H : ((order_Levels.f (a0.extract 0 ((ji4) : Int).toNat)).bind fun t493 => (if (t490.length : Int) = (wrap64 ((wrap64 (((a0.extract 0 ((ji4) : Int).toNat).size : Int) + 1)) + ((a1.extract 0 ((ji7) : Int).toNat).size : Int))) then (abugidalaw07_OrderApart.j0 k (a0.extract 0 ((ji4) : Int).toNat) (a1.extract 0 ((ji7) : Int).toNat) t489 t490 ((t493.length : Int) != ((a0.extract 0 ((ji4) : Int).toNat).size : Int))) else (abugidalaw07_OrderApart.j0 k (a0.extract 0 ((ji4) : Int).toNat) (a1.extract 0 ((ji7) : Int).toNat) t489 t490 true))) = some r := H
              have A12 := Aside0.mk A120
              clear A120
              replace H := Option.bind_eq_some_iff.mp H
              obtain ⟨t493, A130, H⟩ := H
              replace H : (if (t490.length : Int) = (wrap64 ((wrap64 (((a0.extract 0 ((ji4) : Int).toNat).size : Int) + 1)) + ((a1.extract 0 ((ji7) : Int).toNat).size : Int))) then (abugidalaw07_OrderApart.j0 k (a0.extract 0 ((ji4) : Int).toNat) (a1.extract 0 ((ji7) : Int).toNat) t489 t490 ((t493.length : Int) != ((a0.extract 0 ((ji4) : Int).toNat).size : Int))) else (abugidalaw07_OrderApart.j0 k (a0.extract 0 ((ji4) : Int).toNat) (a1.extract 0 ((ji7) : Int).toNat) t489 t490 true)) = some r := H
              have A13 := Aside0.mk A130
              clear A130
              have HC14 := Aside0.mk H
              clear H
              go_enter Try.func8, Try.ntmps8
              go_upto_region 5 with (first | (go_at_call 9; (with_reducible refine (abugidalaw07_sanity.calls k  t489 _ A3.out).mono ?_); rintro e w15 ⟨rfl, hb⟩; have n0_ := Aside0.mk (below_step (by repeat (first | (with_reducible first | exact HB.out | apply below_alloc | apply pw_below_drewN | apply below_drew1) | exact HB.out)) hb); clear HB; have HB := n0_; clear n0_; (try clear hb); (try clear hb2); (try clear hk); (try clear hi)) | (go_at_call 14; (with_reducible refine (order_Levels.calls (((a0.extract 0 ((ji4) : Int).toNat) ++ (⟨#[10]⟩ : ByteArray)) ++ (a1.extract 0 ((ji7) : Int).toNat)) t490 _ A12.out).mono ?_); rintro e w16 ⟨v491, rfl, ho0, hb⟩; have n0_ := Aside0.mk (Kd.R_lower ho0 (below_size (by repeat (first | (with_reducible first | exact HB.out | apply below_alloc | apply pw_below_drewN | apply below_drew1) | exact HB.out)))); have n1_ := Aside0.mk (below_step (by repeat (first | (with_reducible first | exact HB.out | apply below_alloc | apply pw_below_drewN | apply below_drew1) | exact HB.out)) hb); clear HB; have HO492 := n0_; have HB := n1_; clear n0_ n1_; (try clear hb); (try clear hb2); (try clear hk); (try clear hi); (try clear ho0)) | (go_at_call 14; (with_reducible refine (order_Levels.calls (a0.extract 0 ((ji4) : Int).toNat) t493 _ A13.out).mono ?_); rintro e w17 ⟨v494, rfl, ho0, hb⟩; have n0_ := Aside0.mk (Kd.R_elder' (by (with_reducible repeat (first | apply Kd.R_alloc | apply Kd.R_drewN | apply Kd.R_drew)); exact HO492.out) (Kd.R_base ho0) hb); have n1_ := Aside0.mk (Kd.R_lower (Kd.R_new' ho0 (Kd.R_lt (by (with_reducible repeat (first | apply Kd.R_alloc | apply Kd.R_drewN | apply Kd.R_drew)); exact HO492.out))) (below_size (by repeat (first | (with_reducible first | exact HB.out | apply below_alloc | apply pw_below_drewN | apply below_drew1) | exact HB.out)))); have n2_ := Aside0.mk (below_step (by repeat (first | (with_reducible first | exact HB.out | apply below_alloc | apply pw_below_drewN | apply below_drew1) | exact HB.out)) hb); clear HO492; clear HB; have HO492 := n0_; have HO495 := n1_; have HB := n2_; clear n0_ n1_ n2_; (try clear hb); (try clear hb2); (try clear hk); (try clear hi); (try clear ho0)))
              repeat (go_quiet (first | (go_at_call 9; (with_reducible refine (abugidalaw07_sanity.calls k  t489 _ A3.out).mono ?_); rintro e w15 ⟨rfl, hb⟩; have n0_ := Aside0.mk (below_step (by repeat (first | (with_reducible first | exact HB.out | apply below_alloc | apply pw_below_drewN | apply below_drew1) | exact HB.out)) hb); clear HB; have HB := n0_; clear n0_; (try clear hb); (try clear hb2); (try clear hk); (try clear hi)) | (go_at_call 14; (with_reducible refine (order_Levels.calls (((a0.extract 0 ((ji4) : Int).toNat) ++ (⟨#[10]⟩ : ByteArray)) ++ (a1.extract 0 ((ji7) : Int).toNat)) t490 _ A12.out).mono ?_); rintro e w16 ⟨v491, rfl, ho0, hb⟩; have n0_ := Aside0.mk (Kd.R_lower ho0 (below_size (by repeat (first | (with_reducible first | exact HB.out | apply below_alloc | apply pw_below_drewN | apply below_drew1) | exact HB.out)))); have n1_ := Aside0.mk (below_step (by repeat (first | (with_reducible first | exact HB.out | apply below_alloc | apply pw_below_drewN | apply below_drew1) | exact HB.out)) hb); clear HB; have HO492 := n0_; have HB := n1_; clear n0_ n1_; (try clear hb); (try clear hb2); (try clear hk); (try clear hi); (try clear ho0)) | (go_at_call 14; (with_reducible refine (order_Levels.calls (a0.extract 0 ((ji4) : Int).toNat) t493 _ A13.out).mono ?_); rintro e w17 ⟨v494, rfl, ho0, hb⟩; have n0_ := Aside0.mk (Kd.R_elder' (by (with_reducible repeat (first | apply Kd.R_alloc | apply Kd.R_drewN | apply Kd.R_drew)); exact HO492.out) (Kd.R_base ho0) hb); have n1_ := Aside0.mk (Kd.R_lower (Kd.R_new' ho0 (Kd.R_lt (by (with_reducible repeat (first | apply Kd.R_alloc | apply Kd.R_drewN | apply Kd.R_drew)); exact HO492.out))) (below_size (by repeat (first | (with_reducible first | exact HB.out | apply below_alloc | apply pw_below_drewN | apply below_drew1) | exact HB.out)))); have n2_ := Aside0.mk (below_step (by repeat (first | (with_reducible first | exact HB.out | apply below_alloc | apply pw_below_drewN | apply below_drew1) | exact HB.out)) hb); clear HO492; clear HB; have HO492 := n0_; have HO495 := n1_; have HB := n2_; clear n0_ n1_ n2_; (try clear hb); (try clear hb2); (try clear hk); (try clear hi); (try clear ho0))); go_upto_region 5 with (first | (go_at_call 9; (with_reducible refine (abugidalaw07_sanity.calls k  t489 _ A3.out).mono ?_); rintro e w15 ⟨rfl, hb⟩; have n0_ := Aside0.mk (below_step (by repeat (first | (with_reducible first | exact HB.out | apply below_alloc | apply pw_below_drewN | apply below_drew1) | exact HB.out)) hb); clear HB; have HB := n0_; clear n0_; (try clear hb); (try clear hb2); (try clear hk); (try clear hi)) | (go_at_call 14; (with_reducible refine (order_Levels.calls (((a0.extract 0 ((ji4) : Int).toNat) ++ (⟨#[10]⟩ : ByteArray)) ++ (a1.extract 0 ((ji7) : Int).toNat)) t490 _ A12.out).mono ?_); rintro e w16 ⟨v491, rfl, ho0, hb⟩; have n0_ := Aside0.mk (Kd.R_lower ho0 (below_size (by repeat (first | (with_reducible first | exact HB.out | apply below_alloc | apply pw_below_drewN | apply below_drew1) | exact HB.out)))); have n1_ := Aside0.mk (below_step (by repeat (first | (with_reducible first | exact HB.out | apply below_alloc | apply pw_below_drewN | apply below_drew1) | exact HB.out)) hb); clear HB; have HO492 := n0_; have HB := n1_; clear n0_ n1_; (try clear hb); (try clear hb2); (try clear hk); (try clear hi); (try clear ho0)) | (go_at_call 14; (with_reducible refine (order_Levels.calls (a0.extract 0 ((ji4) : Int).toNat) t493 _ A13.out).mono ?_); rintro e w17 ⟨v494, rfl, ho0, hb⟩; have n0_ := Aside0.mk (Kd.R_elder' (by (with_reducible repeat (first | apply Kd.R_alloc | apply Kd.R_drewN | apply Kd.R_drew)); exact HO492.out) (Kd.R_base ho0) hb); have n1_ := Aside0.mk (Kd.R_lower (Kd.R_new' ho0 (Kd.R_lt (by (with_reducible repeat (first | apply Kd.R_alloc | apply Kd.R_drewN | apply Kd.R_drew)); exact HO492.out))) (below_size (by repeat (first | (with_reducible first | exact HB.out | apply below_alloc | apply pw_below_drewN | apply below_drew1) | exact HB.out)))); have n2_ := Aside0.mk (below_step (by repeat (first | (with_reducible first | exact HB.out | apply below_alloc | apply pw_below_drewN | apply below_drew1) | exact HB.out)) hb); clear HO492; clear HB; have HO492 := n0_; have HO495 := n1_; have HB := n2_; clear n0_ n1_ n2_; (try clear hb); (try clear hb2); (try clear hk); (try clear hi); (try clear ho0))))
              (try simp only [Act.put, List.setIfInBounds_toArray, List.set_cons_zero, List.set_cons_succ])
              generalize hgA : (a0.extract 0 ((ji4) : Int).toNat) = xA at *
              generalize hgB : (a1.extract 0 ((ji7) : Int).toNat) = xB at *
              have hw1 : wrap64 ((xA.size : Int) + 1) = (xA.size : Int) + 1 := by unfold wrap64; omega
              replace HC14 := Aside0.mk (by have h_ := HC14.out; rw [hw1] at h_; exact h_)
              clear hw1
              go_cut [46] (fun v46 wc => ∃ (kq : Nat) (x46_13 : Bool), v46 = .bool x46_13 ∧ Aside0 (abugidalaw07_OrderApart.j0 kq xA xB t489 t490 x46_13 = some r) ∧ Aside0 (kq ≤ k) ∧ Aside0 (Kd.R (Kd.int .i64) 3 wc w.heap.size (fun _ => True) v491 t490) ∧ Aside0 (Below w.heap.size w wc))
              case first =>
                have H := HC14.out
                clear HC14
                by_cases c18 : (t490.length : Int) = (wrap64 (((xA.size : Int) + 1) + (xB.size : Int)))
                · rw [if_pos c18] at H
                  have c18b0 : ((t490.length : Int) == (wrap64 (((xA.size : Int) + 1) + (xB.size : Int)))) = true := beq_iff_eq.mpr c18
                  have c18b1 : ((t490.length : Int) != (wrap64 (((xA.size : Int) + 1) + (xB.size : Int)))) = false := bne_eq_false_iff_eq.mpr c18
                  clear c18
                  (first | rw [c18b0] | (simp only [i64_w, i32_w]; rw [c18b0]) | skip)
                  have H' := Aside0.mk H
                  clear H
                  obtain ⟨Ao19, co19, eo19⟩ := Kd.R_slice HO492.out
                  subst eo19
                  obtain ⟨Ao20, co20, eo20⟩ := Kd.R_slice HO495.out
                  subst eo20
                  go_wp2
                  repeat (go_quiet (fail); try go_wp2)
                  go_meet
                  case rel => exact ⟨_, (((t493.length : Int) != (xA.size : Int))), (by first | rfl | (simp; done) | (simp only [← hgA] <;> (first | rfl | simp)) | (simp [*]; done)), H', ⟨by first | omega | exact Nat.le_refl _⟩, ⟨by (with_reducible repeat (first | apply Kd.R_alloc | apply Kd.R_drewN | apply Kd.R_drew)); exact Kd.R_mono HO492.out (fun _ hk => trivial)⟩, ⟨by repeat (first | (with_reducible first | exact HB.out | apply below_alloc | apply pw_below_drewN | apply below_drew1) | exact HB.out)⟩⟩
                · rw [if_neg c18] at H
                  have c18b0 : ((t490.length : Int) == (wrap64 (((xA.size : Int) + 1) + (xB.size : Int)))) = false := beq_eq_false_iff_ne.mpr c18
                  have c18b1 : ((t490.length : Int) != (wrap64 (((xA.size : Int) + 1) + (xB.size : Int)))) = true := bne_iff_ne.mpr c18
                  (first | rw [c18b0] | (simp only [i64_w, i32_w]; rw [c18b0]) | skip)
                  have H' := Aside0.mk H
                  clear H
                  obtain ⟨Ao21, co21, eo21⟩ := Kd.R_slice HO492.out
                  subst eo21
                  go_wp2
                  repeat (go_quiet (fail); try go_wp2)
                  go_meet
                  case rel => exact ⟨_, (true), (by first | rfl | (simp; done) | (simp [*]; done)), H', ⟨by first | omega | exact Nat.le_refl _⟩, ⟨by (with_reducible repeat (first | apply Kd.R_alloc | apply Kd.R_drewN | apply Kd.R_drew)); exact Kd.R_mono HO492.out (fun _ hk => trivial)⟩, ⟨by repeat (first | (with_reducible first | exact HB.out | apply below_alloc | apply pw_below_drewN | apply below_drew1) | exact HB.out)⟩⟩
              case rest =>
                clear HC14
                try clear c1
                try clear p2
                try clear c5
                try clear c5b0
                try clear c5b1
                try clear c6
                try clear c6b0
                try clear c6b1
                try clear p6
                try clear c8
                try clear c8b0
                try clear c8b1
                try clear c9
                try clear c9b0
                try clear c9b1
                try clear c10
                try clear c10b0
                try clear c10b1
                try clear c10b2
                try clear c11
                try clear c11b0
                try clear c11b1
                try clear c11b2
                try clear c18
                try clear c18b0
                try clear c18b1
                obtain ⟨kq, x46_13, rfl, HA, HJ13, HO_6, HB⟩ := hcut
                cases kq with
                | zero => exact absurd HA.out (by simp [abugidalaw07_OrderApart.j0])
                | succ kj13 =>
                  have H := HA.out
                  clear HA
                  simp only [abugidalaw07_OrderApart.j0] at H
                  by_cases c22 : x46_13 = true
                  · subst c22
                    have H1 : (some false) = some r := by rw [if_pos rfl] at H; exact H
                    clear H
                    have H := H1
                    clear H1
                    obtain rfl := Option.some.inj H
                    go_wp2
                    repeat (go_quiet (fail); try go_wp2)
                    go_ret
                    exact ⟨by first | rfl | (simp [errW_none, errW_some] <;> rfl) | (simp only [← hgA]; first | rfl | (simp [errW_none, errW_some] <;> rfl)) | (simp [*, errW_none, errW_some] <;> rfl), by repeat (first | (with_reducible first | exact HB.out | apply below_alloc | apply pw_below_drewN | apply below_drew1) | exact HB.out)⟩
                  · replace c22 := Bool.eq_false_iff.mpr c22
                    subst c22
                    have H1 : (if xA.size + 1 ≤ 9223372036854775807 then (if (xA ++ (⟨#[10]⟩ : ByteArray)).size + xB.size ≤ 9223372036854775807 then ((order_Right.f ((xA ++ (⟨#[10]⟩ : ByteArray)) ++ xB)).bind fun t496 => (if t496 = true then (abugidalaw07_OrderApart.j1 kj13 xA xB t489 t490 1) else (abugidalaw07_OrderApart.j1 kj13 xA xB t489 t490 0))) else (none)) else (none)) = some r := by rw [if_neg (show ¬ (false = true) by decide)] at H; exact H
                    clear H
                    have H := H1
                    clear H1
                    by_cases c23 : xA.size + 1 ≤ 9223372036854775807
                    · rw [if_pos c23] at H
                      have c23b0 := eq_true c23
                      have c23b1 : decide (xA.size + 1 ≤ 9223372036854775807) = true := decide_eq_true c23
                      try have c23b2 : (9223372036854775807 < xA.size + 1) = False := eq_false (Nat.not_lt.2 c23)
                      by_cases c24 : (xA ++ (⟨#[10]⟩ : ByteArray)).size + xB.size ≤ 9223372036854775807
                      · rw [if_pos c24] at H
                        have c24b0 := eq_true c24
                        have c24b1 : decide ((xA ++ (⟨#[10]⟩ : ByteArray)).size + xB.size ≤ 9223372036854775807) = true := decide_eq_true c24
                        try have c24b2 : (9223372036854775807 < (xA ++ (⟨#[10]⟩ : ByteArray)).size + xB.size) = False := eq_false (Nat.not_lt.2 c24)
                        replace H := Option.bind_eq_some_iff.mp H
                        obtain ⟨t496, A250, H⟩ := H
                        replace H : (if t496 = true then (abugidalaw07_OrderApart.j1 kj13 xA xB t489 t490 1) else (abugidalaw07_OrderApart.j1 kj13 xA xB t489 t490 0)) = some r := H
                        have A25 := Aside0.mk A250
                        clear A250
                        have HC26 := Aside0.mk H
                        clear H
                        go_upto_if 51 with (first | (go_at_call 11; (with_reducible refine (order_Right.calls ((xA ++ (⟨#[10]⟩ : ByteArray)) ++ xB) t496 _ A25.out).mono ?_); rintro e w27 ⟨rfl, hb⟩; have n0_ := Aside0.mk (Kd.R_below (by (with_reducible repeat (first | apply Kd.R_alloc | apply Kd.R_drewN | apply Kd.R_drew)); exact HO_6.out) hb); have n1_ := Aside0.mk (below_step (by repeat (first | (with_reducible first | exact HB.out | apply below_alloc | apply pw_below_drewN | apply below_drew1) | exact HB.out)) hb); clear HO_6; clear HB; have HO_6 := n0_; have HB := n1_; clear n0_ n1_; (try clear hb); (try clear hb2); (try clear hk); (try clear hi)))
                        repeat (go_quiet (first | (go_at_call 11; (with_reducible refine (order_Right.calls ((xA ++ (⟨#[10]⟩ : ByteArray)) ++ xB) t496 _ A25.out).mono ?_); rintro e w27 ⟨rfl, hb⟩; have n0_ := Aside0.mk (Kd.R_below (by (with_reducible repeat (first | apply Kd.R_alloc | apply Kd.R_drewN | apply Kd.R_drew)); exact HO_6.out) hb); have n1_ := Aside0.mk (below_step (by repeat (first | (with_reducible first | exact HB.out | apply below_alloc | apply pw_below_drewN | apply below_drew1) | exact HB.out)) hb); clear HO_6; clear HB; have HO_6 := n0_; have HB := n1_; clear n0_ n1_; (try clear hb); (try clear hb2); (try clear hk); (try clear hi))); go_upto_if 51 with (first | (go_at_call 11; (with_reducible refine (order_Right.calls ((xA ++ (⟨#[10]⟩ : ByteArray)) ++ xB) t496 _ A25.out).mono ?_); rintro e w27 ⟨rfl, hb⟩; have n0_ := Aside0.mk (Kd.R_below (by (with_reducible repeat (first | apply Kd.R_alloc | apply Kd.R_drewN | apply Kd.R_drew)); exact HO_6.out) hb); have n1_ := Aside0.mk (below_step (by repeat (first | (with_reducible first | exact HB.out | apply below_alloc | apply pw_below_drewN | apply below_drew1) | exact HB.out)) hb); clear HO_6; clear HB; have HO_6 := n0_; have HB := n1_; clear n0_ n1_; (try clear hb); (try clear hb2); (try clear hk); (try clear hi))))
                        (try simp only [Act.put, List.setIfInBounds_toArray, List.set_cons_zero, List.set_cons_succ])
                        go_cut [8] (fun v8 wc => ∃ (kq : Nat) (x8_25 : Int), v8 = .int .i64 x8_25 ∧ Aside0 (abugidalaw07_OrderApart.j1 kq xA xB t489 t490 x8_25 = some r) ∧ Aside0 (kq ≤ kj13) ∧ Aside0 (Kd.R (Kd.int .i64) 3 wc w.heap.size (fun _ => True) v491 t490) ∧ Aside0 (Below w.heap.size w wc))
                        case first =>
                          have H := HC26.out
                          clear HC26
                          by_cases c28 : t496 = true
                          · subst c28
                            have H1 : (abugidalaw07_OrderApart.j1 kj13 xA xB t489 t490 1) = some r := by rw [if_pos rfl] at H; exact H
                            clear H
                            have H := H1
                            clear H1
                            have H' := Aside0.mk H
                            clear H
                            go_wp2
                            repeat (go_quiet (fail); try go_wp2)
                            go_meet
                            case rel => exact ⟨_, (1), (by first | rfl | (simp; done) | (simp [*]; done)), H', ⟨by have := HJ13.out; first | omega | exact Nat.le_refl _⟩, ⟨by (with_reducible repeat (first | apply Kd.R_alloc | apply Kd.R_drewN | apply Kd.R_drew)); exact HO_6.out⟩, ⟨by repeat (first | (with_reducible first | exact HB.out | apply below_alloc | apply pw_below_drewN | apply below_drew1) | exact HB.out)⟩⟩
                          · replace c28 := Bool.eq_false_iff.mpr c28
                            subst c28
                            have H1 : (abugidalaw07_OrderApart.j1 kj13 xA xB t489 t490 0) = some r := by rw [if_neg (show ¬ (false = true) by decide)] at H; exact H
                            clear H
                            have H := H1
                            clear H1
                            have H' := Aside0.mk H
                            clear H
                            go_wp2
                            repeat (go_quiet (fail); try go_wp2)
                            go_meet
                            case rel => exact ⟨_, (0), (by first | rfl | (simp; done) | (simp [*]; done)), H', ⟨by have := HJ13.out; first | omega | exact Nat.le_refl _⟩, ⟨by (with_reducible repeat (first | apply Kd.R_alloc | apply Kd.R_drewN | apply Kd.R_drew)); exact HO_6.out⟩, ⟨by repeat (first | (with_reducible first | exact HB.out | apply below_alloc | apply pw_below_drewN | apply below_drew1) | exact HB.out)⟩⟩
                        case rest =>
                          clear HC26
                          try clear c1
                          try clear c2
                          try clear p2
                          try clear c5
                          try clear c5b0
                          try clear c5b1
                          try clear c6
                          try clear c6b0
                          try clear c6b1
                          try clear p6
                          try clear c8
                          try clear c8b0
                          try clear c8b1
                          try clear c9
                          try clear c9b0
                          try clear c9b1
                          try clear c10
                          try clear c10b0
                          try clear c10b1
                          try clear c10b2
                          try clear c11
                          try clear c11b0
                          try clear c11b1
                          try clear c11b2
                          try clear c18
                          try clear c18b0
                          try clear c18b1
                          try clear c22
                          try clear c23
                          try clear c23b0
                          try clear c23b1
                          try clear c23b2
                          try clear c24
                          try clear c24b0
                          try clear c24b1
                          try clear c24b2
                          try clear c28
                          try clear p2
                          try clear p6
                          obtain ⟨kq, x8_25, rfl, HA, HJ25, HO_6, HB⟩ := hcut
                          cases kq with
                          | zero => exact absurd HA.out (by simp [abugidalaw07_OrderApart.j1])
                          | succ kj25 =>
                            have H := HA.out
                            clear HA
                            simp only [abugidalaw07_OrderApart.j1] at H
                            have H' := Aside0.mk H
                            clear H
                            go_wp2
                            repeat (go_quiet (fail); try go_wp2)
                            go_loopg [9, 10] kj25 (fun kq v9 v10 w' => ∃ (x9_3 : Bool) (x10_3 : Int), v9 = .bool x9_3 ∧ v10 = .int .i64 x10_3 ∧ Aside0 (abugidalaw07_OrderApart.l0 kq xA xB t489 t490 x8_25 x9_3 x10_3 = some r) ∧ Aside0 (kq ≤ kj25) ∧ Aside0 (Kd.R (Kd.int .i64) 3 w' w.heap.size (fun _ => True) v491 t490) ∧ Aside0 (Below w.heap.size w w'))
                            case atStart => exact ⟨(false), (0), (by first | rfl | (simp; done) | (simp [*]; done)), (by first | rfl | (simp; done) | (simp [*]; done)), H', ⟨Nat.le_refl _⟩, ⟨by (with_reducible repeat (first | apply Kd.R_alloc | apply Kd.R_drewN | apply Kd.R_drew)); exact HO_6.out⟩, ⟨by repeat (first | (with_reducible first | exact HB.out | apply below_alloc | apply pw_below_drewN | apply below_drew1) | exact HB.out)⟩⟩
                            case round =>
                              clear H'
                              try clear c1
                              try clear c2
                              try clear p2
                              try clear c5
                              try clear c5b0
                              try clear c5b1
                              try clear c6
                              try clear c6b0
                              try clear c6b1
                              try clear p6
                              try clear c8
                              try clear c8b0
                              try clear c8b1
                              try clear c9
                              try clear c9b0
                              try clear c9b1
                              try clear c10
                              try clear c10b0
                              try clear c10b1
                              try clear c10b2
                              try clear c11
                              try clear c11b0
                              try clear c11b1
                              try clear c11b2
                              try clear c18
                              try clear c18b0
                              try clear c18b1
                              try clear c22
                              try clear c23
                              try clear c23b0
                              try clear c23b1
                              try clear c23b2
                              try clear c24
                              try clear c24b0
                              try clear c24b1
                              try clear c24b2
                              try clear c28
                              try clear p2
                              try clear p6
                              obtain ⟨x9_3, x10_3, rfl, rfl, HA, HK3, HO_6, HB⟩ := hrel
                              cases gk with
                              | zero => exact absurd HA.out (by simp [abugidalaw07_OrderApart.l0])
                              | succ k3 =>
                                have H := HA.out
                                clear HA
                                simp only [abugidalaw07_OrderApart.l0] at H
                                by_cases c29 : x10_3 < (xA.size : Int)
                                · rw [if_pos c29] at H
                                  have c29b0 : decide (x10_3 < (xA.size : Int)) = true := decide_eq_true c29
                                  clear c29
                                  by_cases c30 : 0 ≤ x10_3
                                  · rw [if_pos c30] at H
                                    have c30b0 : decide (0 ≤ x10_3) = true := decide_eq_true c30
                                    clear c30
                                    replace H := Option.bind_eq_some_iff.mp H
                                    obtain ⟨t497, A320, H⟩ := H
                                    replace H : (if x9_3 = true then (abugidalaw07_OrderApart.l0 k3 xA xB t489 t490 x8_25 true (wrap64 (x10_3 + 1))) else (if t497 = 1 then (abugidalaw07_OrderApart.l0 k3 xA xB t489 t490 x8_25 true (wrap64 (x10_3 + 1))) else (abugidalaw07_OrderApart.l0 k3 xA xB t489 t490 x8_25 (t497 == 2) (wrap64 (x10_3 + 1))))) = some r := H
                                    have A32 := Aside0.mk A320
                                    clear A320
                                    by_cases c33 : x9_3 = true
                                    · subst c33
                                      have H1 : (abugidalaw07_OrderApart.l0 k3 xA xB t489 t490 x8_25 true (wrap64 (x10_3 + 1))) = some r := by rw [if_pos rfl] at H; exact H
                                      clear H
                                      have H := H1
                                      clear H1
                                      have H' := Aside0.mk H
                                      clear H
                                      have p31 : 0 ≤ (x10_3 : Int) := of_decide_eq_true (by first | (with_reducible assumption) | assumption)
                                      have q31 : x10_3 < (xA.size : Int) := of_decide_eq_true (by first | (with_reducible assumption) | assumption)
                                      have hx31 := bt_at xA x10_3
                                      replace p31 := eq_true p31
                                      replace q31 := eq_true q31
                                      go_wp2_with (first | (go_at_call 19; (with_reducible refine (abugidaref05_Strong.calls k3 (wrap64 (bt xA x10_3)) t497 _ A32.out).mono ?_); rintro e w34 ⟨rfl, hb⟩; have n0_ := Aside0.mk (Kd.R_below (by (with_reducible repeat (first | apply Kd.R_alloc | apply Kd.R_drewN | apply Kd.R_drew)); exact HO_6.out) hb); have n1_ := Aside0.mk (below_step (by repeat (first | (with_reducible first | exact HB.out | apply below_alloc | apply pw_below_drewN | apply below_drew1) | exact HB.out)) hb); clear HO_6; clear HB; have HO_6 := n0_; have HB := n1_; clear n0_ n1_; (try clear hb); (try clear hb2); (try clear hk); (try clear hi)))
                                      repeat (go_quiet (first | (go_at_call 19; (with_reducible refine (abugidaref05_Strong.calls k3 (wrap64 (bt xA x10_3)) t497 _ A32.out).mono ?_); rintro e w34 ⟨rfl, hb⟩; have n0_ := Aside0.mk (Kd.R_below (by (with_reducible repeat (first | apply Kd.R_alloc | apply Kd.R_drewN | apply Kd.R_drew)); exact HO_6.out) hb); have n1_ := Aside0.mk (below_step (by repeat (first | (with_reducible first | exact HB.out | apply below_alloc | apply pw_below_drewN | apply below_drew1) | exact HB.out)) hb); clear HO_6; clear HB; have HO_6 := n0_; have HB := n1_; clear n0_ n1_; (try clear hb); (try clear hb2); (try clear hk); (try clear hi))); try go_wp2_with (first | (go_at_call 19; (with_reducible refine (abugidaref05_Strong.calls k3 (wrap64 (bt xA x10_3)) t497 _ A32.out).mono ?_); rintro e w34 ⟨rfl, hb⟩; have n0_ := Aside0.mk (Kd.R_below (by (with_reducible repeat (first | apply Kd.R_alloc | apply Kd.R_drewN | apply Kd.R_drew)); exact HO_6.out) hb); have n1_ := Aside0.mk (below_step (by repeat (first | (with_reducible first | exact HB.out | apply below_alloc | apply pw_below_drewN | apply below_drew1) | exact HB.out)) hb); clear HO_6; clear HB; have HO_6 := n0_; have HB := n1_; clear n0_ n1_; (try clear hb); (try clear hb2); (try clear hk); (try clear hi))))
                                      go_roundg k3
                                      case measure => have := HJ13.out; have := HJ25.out; have := HK3.out; omega
                                      case rel => exact ⟨(true), (wrap64 (x10_3 + 1)), (by first | rfl | (simp; done) | (simp [*]; done)), (by first | rfl | (simp; done) | (simp [*]; done)), H', ⟨by have := HJ13.out; have := HJ25.out; have := HK3.out; omega⟩, ⟨by (with_reducible repeat (first | apply Kd.R_alloc | apply Kd.R_drewN | apply Kd.R_drew)); exact HO_6.out⟩, ⟨by repeat (first | (with_reducible first | exact HB.out | apply below_alloc | apply pw_below_drewN | apply below_drew1) | exact HB.out)⟩⟩
                                    · replace c33 := Bool.eq_false_iff.mpr c33
                                      subst c33
                                      have H1 : (if t497 = 1 then (abugidalaw07_OrderApart.l0 k3 xA xB t489 t490 x8_25 true (wrap64 (x10_3 + 1))) else (abugidalaw07_OrderApart.l0 k3 xA xB t489 t490 x8_25 (t497 == 2) (wrap64 (x10_3 + 1)))) = some r := by rw [if_neg (show ¬ (false = true) by decide)] at H; exact H
                                      clear H
                                      have H := H1
                                      clear H1
                                      by_cases c35 : t497 = 1
                                      · rw [if_pos c35] at H
                                        have c35b0 : (t497 == 1) = true := beq_iff_eq.mpr c35
                                        have c35b1 : (t497 != 1) = false := bne_eq_false_iff_eq.mpr c35
                                        clear c35
                                        have H' := Aside0.mk H
                                        clear H
                                        have p31 : 0 ≤ (x10_3 : Int) := of_decide_eq_true (by first | (with_reducible assumption) | assumption)
                                        have q31 : x10_3 < (xA.size : Int) := of_decide_eq_true (by first | (with_reducible assumption) | assumption)
                                        have hx31 := bt_at xA x10_3
                                        replace p31 := eq_true p31
                                        replace q31 := eq_true q31
                                        go_wp2_with (first | (go_at_call 19; (with_reducible refine (abugidaref05_Strong.calls k3 (wrap64 (bt xA x10_3)) t497 _ A32.out).mono ?_); rintro e w36 ⟨rfl, hb⟩; have n0_ := Aside0.mk (Kd.R_below (by (with_reducible repeat (first | apply Kd.R_alloc | apply Kd.R_drewN | apply Kd.R_drew)); exact HO_6.out) hb); have n1_ := Aside0.mk (below_step (by repeat (first | (with_reducible first | exact HB.out | apply below_alloc | apply pw_below_drewN | apply below_drew1) | exact HB.out)) hb); clear HO_6; clear HB; have HO_6 := n0_; have HB := n1_; clear n0_ n1_; (try clear hb); (try clear hb2); (try clear hk); (try clear hi)))
                                        repeat (go_quiet (first | (go_at_call 19; (with_reducible refine (abugidaref05_Strong.calls k3 (wrap64 (bt xA x10_3)) t497 _ A32.out).mono ?_); rintro e w36 ⟨rfl, hb⟩; have n0_ := Aside0.mk (Kd.R_below (by (with_reducible repeat (first | apply Kd.R_alloc | apply Kd.R_drewN | apply Kd.R_drew)); exact HO_6.out) hb); have n1_ := Aside0.mk (below_step (by repeat (first | (with_reducible first | exact HB.out | apply below_alloc | apply pw_below_drewN | apply below_drew1) | exact HB.out)) hb); clear HO_6; clear HB; have HO_6 := n0_; have HB := n1_; clear n0_ n1_; (try clear hb); (try clear hb2); (try clear hk); (try clear hi))); try go_wp2_with (first | (go_at_call 19; (with_reducible refine (abugidaref05_Strong.calls k3 (wrap64 (bt xA x10_3)) t497 _ A32.out).mono ?_); rintro e w36 ⟨rfl, hb⟩; have n0_ := Aside0.mk (Kd.R_below (by (with_reducible repeat (first | apply Kd.R_alloc | apply Kd.R_drewN | apply Kd.R_drew)); exact HO_6.out) hb); have n1_ := Aside0.mk (below_step (by repeat (first | (with_reducible first | exact HB.out | apply below_alloc | apply pw_below_drewN | apply below_drew1) | exact HB.out)) hb); clear HO_6; clear HB; have HO_6 := n0_; have HB := n1_; clear n0_ n1_; (try clear hb); (try clear hb2); (try clear hk); (try clear hi))))
                                        go_roundg k3
                                        case measure => have := HJ13.out; have := HJ25.out; have := HK3.out; omega
                                        case rel => exact ⟨(true), (wrap64 (x10_3 + 1)), (by first | rfl | (simp; done) | (simp [*]; done)), (by first | rfl | (simp; done) | (simp [*]; done)), H', ⟨by have := HJ13.out; have := HJ25.out; have := HK3.out; omega⟩, ⟨by (with_reducible repeat (first | apply Kd.R_alloc | apply Kd.R_drewN | apply Kd.R_drew)); exact HO_6.out⟩, ⟨by repeat (first | (with_reducible first | exact HB.out | apply below_alloc | apply pw_below_drewN | apply below_drew1) | exact HB.out)⟩⟩
                                      · rw [if_neg c35] at H
                                        have c35b0 : (t497 == 1) = false := beq_eq_false_iff_ne.mpr c35
                                        have c35b1 : (t497 != 1) = true := bne_iff_ne.mpr c35
                                        have H' := Aside0.mk H
                                        clear H
                                        have p31 : 0 ≤ (x10_3 : Int) := of_decide_eq_true (by first | (with_reducible assumption) | assumption)
                                        have q31 : x10_3 < (xA.size : Int) := of_decide_eq_true (by first | (with_reducible assumption) | assumption)
                                        have hx31 := bt_at xA x10_3
                                        replace p31 := eq_true p31
                                        replace q31 := eq_true q31
                                        go_wp2_with (first | (go_at_call 19; (with_reducible refine (abugidaref05_Strong.calls k3 (wrap64 (bt xA x10_3)) t497 _ A32.out).mono ?_); rintro e w37 ⟨rfl, hb⟩; have n0_ := Aside0.mk (Kd.R_below (by (with_reducible repeat (first | apply Kd.R_alloc | apply Kd.R_drewN | apply Kd.R_drew)); exact HO_6.out) hb); have n1_ := Aside0.mk (below_step (by repeat (first | (with_reducible first | exact HB.out | apply below_alloc | apply pw_below_drewN | apply below_drew1) | exact HB.out)) hb); clear HO_6; clear HB; have HO_6 := n0_; have HB := n1_; clear n0_ n1_; (try clear hb); (try clear hb2); (try clear hk); (try clear hi)))
                                        repeat (go_quiet (first | (go_at_call 19; (with_reducible refine (abugidaref05_Strong.calls k3 (wrap64 (bt xA x10_3)) t497 _ A32.out).mono ?_); rintro e w37 ⟨rfl, hb⟩; have n0_ := Aside0.mk (Kd.R_below (by (with_reducible repeat (first | apply Kd.R_alloc | apply Kd.R_drewN | apply Kd.R_drew)); exact HO_6.out) hb); have n1_ := Aside0.mk (below_step (by repeat (first | (with_reducible first | exact HB.out | apply below_alloc | apply pw_below_drewN | apply below_drew1) | exact HB.out)) hb); clear HO_6; clear HB; have HO_6 := n0_; have HB := n1_; clear n0_ n1_; (try clear hb); (try clear hb2); (try clear hk); (try clear hi))); try go_wp2_with (first | (go_at_call 19; (with_reducible refine (abugidaref05_Strong.calls k3 (wrap64 (bt xA x10_3)) t497 _ A32.out).mono ?_); rintro e w37 ⟨rfl, hb⟩; have n0_ := Aside0.mk (Kd.R_below (by (with_reducible repeat (first | apply Kd.R_alloc | apply Kd.R_drewN | apply Kd.R_drew)); exact HO_6.out) hb); have n1_ := Aside0.mk (below_step (by repeat (first | (with_reducible first | exact HB.out | apply below_alloc | apply pw_below_drewN | apply below_drew1) | exact HB.out)) hb); clear HO_6; clear HB; have HO_6 := n0_; have HB := n1_; clear n0_ n1_; (try clear hb); (try clear hb2); (try clear hk); (try clear hi))))
                                        go_roundg k3
                                        case measure => have := HJ13.out; have := HJ25.out; have := HK3.out; omega
                                        case rel => exact ⟨((t497 == 2)), (wrap64 (x10_3 + 1)), (by first | rfl | (simp; done) | (simp [*]; done)), (by first | rfl | (simp; done) | (simp [*]; done)), H', ⟨by have := HJ13.out; have := HJ25.out; have := HK3.out; omega⟩, ⟨by (with_reducible repeat (first | apply Kd.R_alloc | apply Kd.R_drewN | apply Kd.R_drew)); exact HO_6.out⟩, ⟨by repeat (first | (with_reducible first | exact HB.out | apply below_alloc | apply pw_below_drewN | apply below_drew1) | exact HB.out)⟩⟩
                                  · rw [if_neg c30] at H
                                    exact absurd H (by simp)
                                · rw [if_neg c29] at H
                                  have c29b0 : decide (x10_3 < (xA.size : Int)) = false := decide_eq_false c29
                                  clear c29
                                  by_cases c38 : x9_3 = true
                                  · subst c38
                                    have H1 : ((order_Right.f xA).bind fun t498 => (if xA.size + 1 ≤ 9223372036854775807 then (if (xA ++ (⟨#[10]⟩ : ByteArray)).size + xB.size ≤ 9223372036854775807 then ((order_Right.f ((xA ++ (⟨#[10]⟩ : ByteArray)) ++ xB)).bind fun t499 => (if (t498 != t499) = true then (some false) else (if 0 ≤ (xA.size : Int) then (if (xA.size : Int) < (t490.length : Int) then (if t489 = true then (if x8_25 = 0 then (if (rd t490 (xA.size : Int)) = 0 then (some true) else (if x8_25 = 1 then (some ((rd t490 (xA.size : Int)) == 1)) else (some false))) else (if x8_25 = 1 then (some ((rd t490 (xA.size : Int)) == 1)) else (some false))) else (some false)) else (none)) else (none)))) else (none)) else (none))) = some r := by rw [if_pos rfl] at H; exact H
                                    clear H
                                    have H := H1
                                    clear H1
                                    replace H := Option.bind_eq_some_iff.mp H
                                    obtain ⟨t498, A390, H⟩ := H
                                    replace H : (if xA.size + 1 ≤ 9223372036854775807 then (if (xA ++ (⟨#[10]⟩ : ByteArray)).size + xB.size ≤ 9223372036854775807 then ((order_Right.f ((xA ++ (⟨#[10]⟩ : ByteArray)) ++ xB)).bind fun t499 => (if (t498 != t499) = true then (some false) else (if 0 ≤ (xA.size : Int) then (if (xA.size : Int) < (t490.length : Int) then (if t489 = true then (if x8_25 = 0 then (if (rd t490 (xA.size : Int)) = 0 then (some true) else (if x8_25 = 1 then (some ((rd t490 (xA.size : Int)) == 1)) else (some false))) else (if x8_25 = 1 then (some ((rd t490 (xA.size : Int)) == 1)) else (some false))) else (some false)) else (none)) else (none)))) else (none)) else (none)) = some r := H
                                    have A39 := Aside0.mk A390
                                    clear A390
                                    by_cases c40 : xA.size + 1 ≤ 9223372036854775807
                                    · rw [if_pos c40] at H
                                      have c40b0 := eq_true c40
                                      have c40b1 : decide (xA.size + 1 ≤ 9223372036854775807) = true := decide_eq_true c40
                                      try have c40b2 : (9223372036854775807 < xA.size + 1) = False := eq_false (Nat.not_lt.2 c40)
                                      by_cases c41 : (xA ++ (⟨#[10]⟩ : ByteArray)).size + xB.size ≤ 9223372036854775807
                                      · rw [if_pos c41] at H
                                        have c41b0 := eq_true c41
                                        have c41b1 : decide ((xA ++ (⟨#[10]⟩ : ByteArray)).size + xB.size ≤ 9223372036854775807) = true := decide_eq_true c41
                                        try have c41b2 : (9223372036854775807 < (xA ++ (⟨#[10]⟩ : ByteArray)).size + xB.size) = False := eq_false (Nat.not_lt.2 c41)
                                        replace H := Option.bind_eq_some_iff.mp H
                                        obtain ⟨t499, A420, H⟩ := H
                                        replace H : (if (t498 != t499) = true then (some false) else (if 0 ≤ (xA.size : Int) then (if (xA.size : Int) < (t490.length : Int) then (if t489 = true then (if x8_25 = 0 then (if (rd t490 (xA.size : Int)) = 0 then (some true) else (if x8_25 = 1 then (some ((rd t490 (xA.size : Int)) == 1)) else (some false))) else (if x8_25 = 1 then (some ((rd t490 (xA.size : Int)) == 1)) else (some false))) else (some false)) else (none)) else (none))) = some r := H
                                        have A42 := Aside0.mk A420
                                        clear A420
                                        by_cases c43 : (t498 != t499) = true
                                        · rw [if_pos c43] at H
                                          have c43b0 : (t498 != t499) = true := c43
                                          (try (have c43b1 : decide (t498 = t499) = false := by simpa using c43))
                                          (try (have c43b2 : (t498 == t499) = false := by simpa using c43))
                                          (try (have c43b3 : ¬ (t498 = t499) := by simpa using c43))
                                          clear c43
                                          obtain rfl := Option.some.inj H
                                          go_wp2_with (first | (go_at_call 11; (with_reducible refine (order_Right.calls xA t498 _ A39.out).mono ?_); rintro e w44 ⟨rfl, hb⟩; have n0_ := Aside0.mk (Kd.R_below (by (with_reducible repeat (first | apply Kd.R_alloc | apply Kd.R_drewN | apply Kd.R_drew)); exact HO_6.out) hb); have n1_ := Aside0.mk (below_step (by repeat (first | (with_reducible first | exact HB.out | apply below_alloc | apply pw_below_drewN | apply below_drew1) | exact HB.out)) hb); clear HO_6; clear HB; have HO_6 := n0_; have HB := n1_; clear n0_ n1_; (try clear hb); (try clear hb2); (try clear hk); (try clear hi)) | (go_at_call 11; (with_reducible refine (order_Right.calls ((xA ++ (⟨#[10]⟩ : ByteArray)) ++ xB) t499 _ A42.out).mono ?_); rintro e w45 ⟨rfl, hb⟩; have n0_ := Aside0.mk (Kd.R_below (by (with_reducible repeat (first | apply Kd.R_alloc | apply Kd.R_drewN | apply Kd.R_drew)); exact HO_6.out) hb); have n1_ := Aside0.mk (below_step (by repeat (first | (with_reducible first | exact HB.out | apply below_alloc | apply pw_below_drewN | apply below_drew1) | exact HB.out)) hb); clear HO_6; clear HB; have HO_6 := n0_; have HB := n1_; clear n0_ n1_; (try clear hb); (try clear hb2); (try clear hk); (try clear hi)))
                                          repeat (go_quiet (first | (go_at_call 11; (with_reducible refine (order_Right.calls xA t498 _ A39.out).mono ?_); rintro e w44 ⟨rfl, hb⟩; have n0_ := Aside0.mk (Kd.R_below (by (with_reducible repeat (first | apply Kd.R_alloc | apply Kd.R_drewN | apply Kd.R_drew)); exact HO_6.out) hb); have n1_ := Aside0.mk (below_step (by repeat (first | (with_reducible first | exact HB.out | apply below_alloc | apply pw_below_drewN | apply below_drew1) | exact HB.out)) hb); clear HO_6; clear HB; have HO_6 := n0_; have HB := n1_; clear n0_ n1_; (try clear hb); (try clear hb2); (try clear hk); (try clear hi)) | (go_at_call 11; (with_reducible refine (order_Right.calls ((xA ++ (⟨#[10]⟩ : ByteArray)) ++ xB) t499 _ A42.out).mono ?_); rintro e w45 ⟨rfl, hb⟩; have n0_ := Aside0.mk (Kd.R_below (by (with_reducible repeat (first | apply Kd.R_alloc | apply Kd.R_drewN | apply Kd.R_drew)); exact HO_6.out) hb); have n1_ := Aside0.mk (below_step (by repeat (first | (with_reducible first | exact HB.out | apply below_alloc | apply pw_below_drewN | apply below_drew1) | exact HB.out)) hb); clear HO_6; clear HB; have HO_6 := n0_; have HB := n1_; clear n0_ n1_; (try clear hb); (try clear hb2); (try clear hk); (try clear hi))); try go_wp2_with (first | (go_at_call 11; (with_reducible refine (order_Right.calls xA t498 _ A39.out).mono ?_); rintro e w44 ⟨rfl, hb⟩; have n0_ := Aside0.mk (Kd.R_below (by (with_reducible repeat (first | apply Kd.R_alloc | apply Kd.R_drewN | apply Kd.R_drew)); exact HO_6.out) hb); have n1_ := Aside0.mk (below_step (by repeat (first | (with_reducible first | exact HB.out | apply below_alloc | apply pw_below_drewN | apply below_drew1) | exact HB.out)) hb); clear HO_6; clear HB; have HO_6 := n0_; have HB := n1_; clear n0_ n1_; (try clear hb); (try clear hb2); (try clear hk); (try clear hi)) | (go_at_call 11; (with_reducible refine (order_Right.calls ((xA ++ (⟨#[10]⟩ : ByteArray)) ++ xB) t499 _ A42.out).mono ?_); rintro e w45 ⟨rfl, hb⟩; have n0_ := Aside0.mk (Kd.R_below (by (with_reducible repeat (first | apply Kd.R_alloc | apply Kd.R_drewN | apply Kd.R_drew)); exact HO_6.out) hb); have n1_ := Aside0.mk (below_step (by repeat (first | (with_reducible first | exact HB.out | apply below_alloc | apply pw_below_drewN | apply below_drew1) | exact HB.out)) hb); clear HO_6; clear HB; have HO_6 := n0_; have HB := n1_; clear n0_ n1_; (try clear hb); (try clear hb2); (try clear hk); (try clear hi))))
                                          go_ret
                                          exact ⟨by first | rfl | (simp [errW_none, errW_some] <;> rfl) | (simp only [← hgA]; first | rfl | (simp [errW_none, errW_some] <;> rfl)) | (simp [*, errW_none, errW_some] <;> rfl), by repeat (first | (with_reducible first | exact HB.out | apply below_alloc | apply pw_below_drewN | apply below_drew1) | exact HB.out)⟩
                                        · rw [if_neg c43] at H
                                          have c43b0 : (t498 != t499) = false := by simpa using c43
                                          (try (have c43b1 : decide (t498 = t499) = true := by simpa using c43))
                                          (try (have c43b2 : (t498 == t499) = true := by simpa using c43))
                                          clear c43
                                          by_cases c46 : 0 ≤ (xA.size : Int)
                                          · rw [if_pos c46] at H
                                            have c46b0 : decide (0 ≤ (xA.size : Int)) = true := decide_eq_true c46
                                            have c46b1 : decide (0 ≤ xA.size) = true := decide_eq_true (by omega)
                                            clear c46
                                            by_cases c47 : (xA.size : Int) < (t490.length : Int)
                                            · rw [if_pos c47] at H
                                              have c47b0 : decide ((xA.size : Int) < (t490.length : Int)) = true := decide_eq_true c47
                                              have c47b1 : decide (xA.size < t490.length) = true := decide_eq_true (Int.ofNat_lt.mp c47)
                                              clear c47
                                              by_cases c48 : t489 = true
                                              · subst c48
                                                have H1 : (if x8_25 = 0 then (if (rd t490 (xA.size : Int)) = 0 then (some true) else (if x8_25 = 1 then (some ((rd t490 (xA.size : Int)) == 1)) else (some false))) else (if x8_25 = 1 then (some ((rd t490 (xA.size : Int)) == 1)) else (some false))) = some r := by rw [if_pos rfl] at H; exact H
                                                clear H
                                                have H := H1
                                                clear H1
                                                by_cases c49 : x8_25 = 0
                                                · rw [if_pos c49] at H
                                                  have c49b0 : (x8_25 == 0) = true := beq_iff_eq.mpr c49
                                                  have c49b1 : (x8_25 != 0) = false := bne_eq_false_iff_eq.mpr c49
                                                  clear c49
                                                  by_cases c50 : (rd t490 (xA.size : Int)) = 0
                                                  · rw [if_pos c50] at H
                                                    have c50b0 : ((rd t490 (xA.size : Int)) == 0) = true := beq_iff_eq.mpr c50
                                                    have c50b1 : ((rd t490 (xA.size : Int)) != 0) = false := bne_eq_false_iff_eq.mpr c50
                                                    clear c50
                                                    obtain rfl := Option.some.inj H
                                                    go_wp2_with (first | (go_at_call 11; (with_reducible refine (order_Right.calls xA t498 _ A39.out).mono ?_); rintro e w51 ⟨rfl, hb⟩; have n0_ := Aside0.mk (Kd.R_below (by (with_reducible repeat (first | apply Kd.R_alloc | apply Kd.R_drewN | apply Kd.R_drew)); exact HO_6.out) hb); have n1_ := Aside0.mk (below_step (by repeat (first | (with_reducible first | exact HB.out | apply below_alloc | apply pw_below_drewN | apply below_drew1) | exact HB.out)) hb); clear HO_6; clear HB; have HO_6 := n0_; have HB := n1_; clear n0_ n1_; (try clear hb); (try clear hb2); (try clear hk); (try clear hi)) | (go_at_call 11; (with_reducible refine (order_Right.calls ((xA ++ (⟨#[10]⟩ : ByteArray)) ++ xB) t499 _ A42.out).mono ?_); rintro e w52 ⟨rfl, hb⟩; have n0_ := Aside0.mk (Kd.R_below (by (with_reducible repeat (first | apply Kd.R_alloc | apply Kd.R_drewN | apply Kd.R_drew)); exact HO_6.out) hb); have n1_ := Aside0.mk (below_step (by repeat (first | (with_reducible first | exact HB.out | apply below_alloc | apply pw_below_drewN | apply below_drew1) | exact HB.out)) hb); clear HO_6; clear HB; have HO_6 := n0_; have HB := n1_; clear n0_ n1_; (try clear hb); (try clear hb2); (try clear hk); (try clear hi); obtain ⟨Ao53, co53, eo53⟩ := Kd.R_slice HO_6.out; subst eo53; have p500 : 0 ≤ ((xA.size : Int) : Int) := of_decide_eq_true (by first | (with_reducible assumption) | assumption); have q500 : (xA.size : Int) < (t490.length : Int) := of_decide_eq_true (by first | (with_reducible assumption) | assumption); obtain ⟨ad500, e500, hx500_0⟩ := Kd.at_int (Kd.R_reads' HO_6.out).2.2 (xA.size : Int) p500 q500; cases e500; (try rw [Int.toNat_natCast] at hx500_0); replace p500 := eq_true p500; replace q500 := eq_true q500))
                                                    repeat (go_quiet (first | (go_at_call 11; (with_reducible refine (order_Right.calls xA t498 _ A39.out).mono ?_); rintro e w51 ⟨rfl, hb⟩; have n0_ := Aside0.mk (Kd.R_below (by (with_reducible repeat (first | apply Kd.R_alloc | apply Kd.R_drewN | apply Kd.R_drew)); exact HO_6.out) hb); have n1_ := Aside0.mk (below_step (by repeat (first | (with_reducible first | exact HB.out | apply below_alloc | apply pw_below_drewN | apply below_drew1) | exact HB.out)) hb); clear HO_6; clear HB; have HO_6 := n0_; have HB := n1_; clear n0_ n1_; (try clear hb); (try clear hb2); (try clear hk); (try clear hi)) | (go_at_call 11; (with_reducible refine (order_Right.calls ((xA ++ (⟨#[10]⟩ : ByteArray)) ++ xB) t499 _ A42.out).mono ?_); rintro e w52 ⟨rfl, hb⟩; have n0_ := Aside0.mk (Kd.R_below (by (with_reducible repeat (first | apply Kd.R_alloc | apply Kd.R_drewN | apply Kd.R_drew)); exact HO_6.out) hb); have n1_ := Aside0.mk (below_step (by repeat (first | (with_reducible first | exact HB.out | apply below_alloc | apply pw_below_drewN | apply below_drew1) | exact HB.out)) hb); clear HO_6; clear HB; have HO_6 := n0_; have HB := n1_; clear n0_ n1_; (try clear hb); (try clear hb2); (try clear hk); (try clear hi); obtain ⟨Ao53, co53, eo53⟩ := Kd.R_slice HO_6.out; subst eo53; have p500 : 0 ≤ ((xA.size : Int) : Int) := of_decide_eq_true (by first | (with_reducible assumption) | assumption); have q500 : (xA.size : Int) < (t490.length : Int) := of_decide_eq_true (by first | (with_reducible assumption) | assumption); obtain ⟨ad500, e500, hx500_0⟩ := Kd.at_int (Kd.R_reads' HO_6.out).2.2 (xA.size : Int) p500 q500; cases e500; (try rw [Int.toNat_natCast] at hx500_0); replace p500 := eq_true p500; replace q500 := eq_true q500)); try go_wp2_with (first | (go_at_call 11; (with_reducible refine (order_Right.calls xA t498 _ A39.out).mono ?_); rintro e w51 ⟨rfl, hb⟩; have n0_ := Aside0.mk (Kd.R_below (by (with_reducible repeat (first | apply Kd.R_alloc | apply Kd.R_drewN | apply Kd.R_drew)); exact HO_6.out) hb); have n1_ := Aside0.mk (below_step (by repeat (first | (with_reducible first | exact HB.out | apply below_alloc | apply pw_below_drewN | apply below_drew1) | exact HB.out)) hb); clear HO_6; clear HB; have HO_6 := n0_; have HB := n1_; clear n0_ n1_; (try clear hb); (try clear hb2); (try clear hk); (try clear hi)) | (go_at_call 11; (with_reducible refine (order_Right.calls ((xA ++ (⟨#[10]⟩ : ByteArray)) ++ xB) t499 _ A42.out).mono ?_); rintro e w52 ⟨rfl, hb⟩; have n0_ := Aside0.mk (Kd.R_below (by (with_reducible repeat (first | apply Kd.R_alloc | apply Kd.R_drewN | apply Kd.R_drew)); exact HO_6.out) hb); have n1_ := Aside0.mk (below_step (by repeat (first | (with_reducible first | exact HB.out | apply below_alloc | apply pw_below_drewN | apply below_drew1) | exact HB.out)) hb); clear HO_6; clear HB; have HO_6 := n0_; have HB := n1_; clear n0_ n1_; (try clear hb); (try clear hb2); (try clear hk); (try clear hi); obtain ⟨Ao53, co53, eo53⟩ := Kd.R_slice HO_6.out; subst eo53; have p500 : 0 ≤ ((xA.size : Int) : Int) := of_decide_eq_true (by first | (with_reducible assumption) | assumption); have q500 : (xA.size : Int) < (t490.length : Int) := of_decide_eq_true (by first | (with_reducible assumption) | assumption); obtain ⟨ad500, e500, hx500_0⟩ := Kd.at_int (Kd.R_reads' HO_6.out).2.2 (xA.size : Int) p500 q500; cases e500; (try rw [Int.toNat_natCast] at hx500_0); replace p500 := eq_true p500; replace q500 := eq_true q500)))
                                                    go_ret
                                                    exact ⟨by first | rfl | (simp [errW_none, errW_some] <;> rfl) | (simp only [← hgA]; first | rfl | (simp [errW_none, errW_some] <;> rfl)) | (simp [*, errW_none, errW_some] <;> rfl), by repeat (first | (with_reducible first | exact HB.out | apply below_alloc | apply pw_below_drewN | apply below_drew1) | exact HB.out)⟩
                                                  · rw [if_neg c50] at H
                                                    have c50b0 : ((rd t490 (xA.size : Int)) == 0) = false := beq_eq_false_iff_ne.mpr c50
                                                    have c50b1 : ((rd t490 (xA.size : Int)) != 0) = true := bne_iff_ne.mpr c50
                                                    by_cases c54 : x8_25 = 1
                                                    · rw [if_pos c54] at H
                                                      have c54b0 : (x8_25 == 1) = true := beq_iff_eq.mpr c54
                                                      have c54b1 : (x8_25 != 1) = false := bne_eq_false_iff_eq.mpr c54
                                                      clear c54
                                                      obtain rfl := Option.some.inj H
                                                      go_wp2_with (first | (go_at_call 11; (with_reducible refine (order_Right.calls xA t498 _ A39.out).mono ?_); rintro e w55 ⟨rfl, hb⟩; have n0_ := Aside0.mk (Kd.R_below (by (with_reducible repeat (first | apply Kd.R_alloc | apply Kd.R_drewN | apply Kd.R_drew)); exact HO_6.out) hb); have n1_ := Aside0.mk (below_step (by repeat (first | (with_reducible first | exact HB.out | apply below_alloc | apply pw_below_drewN | apply below_drew1) | exact HB.out)) hb); clear HO_6; clear HB; have HO_6 := n0_; have HB := n1_; clear n0_ n1_; (try clear hb); (try clear hb2); (try clear hk); (try clear hi)) | (go_at_call 11; (with_reducible refine (order_Right.calls ((xA ++ (⟨#[10]⟩ : ByteArray)) ++ xB) t499 _ A42.out).mono ?_); rintro e w56 ⟨rfl, hb⟩; have n0_ := Aside0.mk (Kd.R_below (by (with_reducible repeat (first | apply Kd.R_alloc | apply Kd.R_drewN | apply Kd.R_drew)); exact HO_6.out) hb); have n1_ := Aside0.mk (below_step (by repeat (first | (with_reducible first | exact HB.out | apply below_alloc | apply pw_below_drewN | apply below_drew1) | exact HB.out)) hb); clear HO_6; clear HB; have HO_6 := n0_; have HB := n1_; clear n0_ n1_; (try clear hb); (try clear hb2); (try clear hk); (try clear hi); obtain ⟨Ao57, co57, eo57⟩ := Kd.R_slice HO_6.out; subst eo57; have p500 : 0 ≤ ((xA.size : Int) : Int) := of_decide_eq_true (by first | (with_reducible assumption) | assumption); have q500 : (xA.size : Int) < (t490.length : Int) := of_decide_eq_true (by first | (with_reducible assumption) | assumption); obtain ⟨ad500, e500, hx500_0⟩ := Kd.at_int (Kd.R_reads' HO_6.out).2.2 (xA.size : Int) p500 q500; cases e500; (try rw [Int.toNat_natCast] at hx500_0); replace p500 := eq_true p500; replace q500 := eq_true q500))
                                                      repeat (go_quiet (first | (go_at_call 11; (with_reducible refine (order_Right.calls xA t498 _ A39.out).mono ?_); rintro e w55 ⟨rfl, hb⟩; have n0_ := Aside0.mk (Kd.R_below (by (with_reducible repeat (first | apply Kd.R_alloc | apply Kd.R_drewN | apply Kd.R_drew)); exact HO_6.out) hb); have n1_ := Aside0.mk (below_step (by repeat (first | (with_reducible first | exact HB.out | apply below_alloc | apply pw_below_drewN | apply below_drew1) | exact HB.out)) hb); clear HO_6; clear HB; have HO_6 := n0_; have HB := n1_; clear n0_ n1_; (try clear hb); (try clear hb2); (try clear hk); (try clear hi)) | (go_at_call 11; (with_reducible refine (order_Right.calls ((xA ++ (⟨#[10]⟩ : ByteArray)) ++ xB) t499 _ A42.out).mono ?_); rintro e w56 ⟨rfl, hb⟩; have n0_ := Aside0.mk (Kd.R_below (by (with_reducible repeat (first | apply Kd.R_alloc | apply Kd.R_drewN | apply Kd.R_drew)); exact HO_6.out) hb); have n1_ := Aside0.mk (below_step (by repeat (first | (with_reducible first | exact HB.out | apply below_alloc | apply pw_below_drewN | apply below_drew1) | exact HB.out)) hb); clear HO_6; clear HB; have HO_6 := n0_; have HB := n1_; clear n0_ n1_; (try clear hb); (try clear hb2); (try clear hk); (try clear hi); obtain ⟨Ao57, co57, eo57⟩ := Kd.R_slice HO_6.out; subst eo57; have p500 : 0 ≤ ((xA.size : Int) : Int) := of_decide_eq_true (by first | (with_reducible assumption) | assumption); have q500 : (xA.size : Int) < (t490.length : Int) := of_decide_eq_true (by first | (with_reducible assumption) | assumption); obtain ⟨ad500, e500, hx500_0⟩ := Kd.at_int (Kd.R_reads' HO_6.out).2.2 (xA.size : Int) p500 q500; cases e500; (try rw [Int.toNat_natCast] at hx500_0); replace p500 := eq_true p500; replace q500 := eq_true q500)); try go_wp2_with (first | (go_at_call 11; (with_reducible refine (order_Right.calls xA t498 _ A39.out).mono ?_); rintro e w55 ⟨rfl, hb⟩; have n0_ := Aside0.mk (Kd.R_below (by (with_reducible repeat (first | apply Kd.R_alloc | apply Kd.R_drewN | apply Kd.R_drew)); exact HO_6.out) hb); have n1_ := Aside0.mk (below_step (by repeat (first | (with_reducible first | exact HB.out | apply below_alloc | apply pw_below_drewN | apply below_drew1) | exact HB.out)) hb); clear HO_6; clear HB; have HO_6 := n0_; have HB := n1_; clear n0_ n1_; (try clear hb); (try clear hb2); (try clear hk); (try clear hi)) | (go_at_call 11; (with_reducible refine (order_Right.calls ((xA ++ (⟨#[10]⟩ : ByteArray)) ++ xB) t499 _ A42.out).mono ?_); rintro e w56 ⟨rfl, hb⟩; have n0_ := Aside0.mk (Kd.R_below (by (with_reducible repeat (first | apply Kd.R_alloc | apply Kd.R_drewN | apply Kd.R_drew)); exact HO_6.out) hb); have n1_ := Aside0.mk (below_step (by repeat (first | (with_reducible first | exact HB.out | apply below_alloc | apply pw_below_drewN | apply below_drew1) | exact HB.out)) hb); clear HO_6; clear HB; have HO_6 := n0_; have HB := n1_; clear n0_ n1_; (try clear hb); (try clear hb2); (try clear hk); (try clear hi); obtain ⟨Ao57, co57, eo57⟩ := Kd.R_slice HO_6.out; subst eo57; have p500 : 0 ≤ ((xA.size : Int) : Int) := of_decide_eq_true (by first | (with_reducible assumption) | assumption); have q500 : (xA.size : Int) < (t490.length : Int) := of_decide_eq_true (by first | (with_reducible assumption) | assumption); obtain ⟨ad500, e500, hx500_0⟩ := Kd.at_int (Kd.R_reads' HO_6.out).2.2 (xA.size : Int) p500 q500; cases e500; (try rw [Int.toNat_natCast] at hx500_0); replace p500 := eq_true p500; replace q500 := eq_true q500)))
                                                      go_ret
                                                      exact ⟨by first | rfl | (simp [errW_none, errW_some] <;> rfl) | (simp only [← hgA]; first | rfl | (simp [errW_none, errW_some] <;> rfl)) | (simp [*, errW_none, errW_some] <;> rfl), by repeat (first | (with_reducible first | exact HB.out | apply below_alloc | apply pw_below_drewN | apply below_drew1) | exact HB.out)⟩
                                                    · rw [if_neg c54] at H
                                                      have c54b0 : (x8_25 == 1) = false := beq_eq_false_iff_ne.mpr c54
                                                      have c54b1 : (x8_25 != 1) = true := bne_iff_ne.mpr c54
                                                      obtain rfl := Option.some.inj H
                                                      go_wp2_with (first | (go_at_call 11; (with_reducible refine (order_Right.calls xA t498 _ A39.out).mono ?_); rintro e w58 ⟨rfl, hb⟩; have n0_ := Aside0.mk (Kd.R_below (by (with_reducible repeat (first | apply Kd.R_alloc | apply Kd.R_drewN | apply Kd.R_drew)); exact HO_6.out) hb); have n1_ := Aside0.mk (below_step (by repeat (first | (with_reducible first | exact HB.out | apply below_alloc | apply pw_below_drewN | apply below_drew1) | exact HB.out)) hb); clear HO_6; clear HB; have HO_6 := n0_; have HB := n1_; clear n0_ n1_; (try clear hb); (try clear hb2); (try clear hk); (try clear hi)) | (go_at_call 11; (with_reducible refine (order_Right.calls ((xA ++ (⟨#[10]⟩ : ByteArray)) ++ xB) t499 _ A42.out).mono ?_); rintro e w59 ⟨rfl, hb⟩; have n0_ := Aside0.mk (Kd.R_below (by (with_reducible repeat (first | apply Kd.R_alloc | apply Kd.R_drewN | apply Kd.R_drew)); exact HO_6.out) hb); have n1_ := Aside0.mk (below_step (by repeat (first | (with_reducible first | exact HB.out | apply below_alloc | apply pw_below_drewN | apply below_drew1) | exact HB.out)) hb); clear HO_6; clear HB; have HO_6 := n0_; have HB := n1_; clear n0_ n1_; (try clear hb); (try clear hb2); (try clear hk); (try clear hi); obtain ⟨Ao60, co60, eo60⟩ := Kd.R_slice HO_6.out; subst eo60; have p500 : 0 ≤ ((xA.size : Int) : Int) := of_decide_eq_true (by first | (with_reducible assumption) | assumption); have q500 : (xA.size : Int) < (t490.length : Int) := of_decide_eq_true (by first | (with_reducible assumption) | assumption); obtain ⟨ad500, e500, hx500_0⟩ := Kd.at_int (Kd.R_reads' HO_6.out).2.2 (xA.size : Int) p500 q500; cases e500; (try rw [Int.toNat_natCast] at hx500_0); replace p500 := eq_true p500; replace q500 := eq_true q500))
                                                      repeat (go_quiet (first | (go_at_call 11; (with_reducible refine (order_Right.calls xA t498 _ A39.out).mono ?_); rintro e w58 ⟨rfl, hb⟩; have n0_ := Aside0.mk (Kd.R_below (by (with_reducible repeat (first | apply Kd.R_alloc | apply Kd.R_drewN | apply Kd.R_drew)); exact HO_6.out) hb); have n1_ := Aside0.mk (below_step (by repeat (first | (with_reducible first | exact HB.out | apply below_alloc | apply pw_below_drewN | apply below_drew1) | exact HB.out)) hb); clear HO_6; clear HB; have HO_6 := n0_; have HB := n1_; clear n0_ n1_; (try clear hb); (try clear hb2); (try clear hk); (try clear hi)) | (go_at_call 11; (with_reducible refine (order_Right.calls ((xA ++ (⟨#[10]⟩ : ByteArray)) ++ xB) t499 _ A42.out).mono ?_); rintro e w59 ⟨rfl, hb⟩; have n0_ := Aside0.mk (Kd.R_below (by (with_reducible repeat (first | apply Kd.R_alloc | apply Kd.R_drewN | apply Kd.R_drew)); exact HO_6.out) hb); have n1_ := Aside0.mk (below_step (by repeat (first | (with_reducible first | exact HB.out | apply below_alloc | apply pw_below_drewN | apply below_drew1) | exact HB.out)) hb); clear HO_6; clear HB; have HO_6 := n0_; have HB := n1_; clear n0_ n1_; (try clear hb); (try clear hb2); (try clear hk); (try clear hi); obtain ⟨Ao60, co60, eo60⟩ := Kd.R_slice HO_6.out; subst eo60; have p500 : 0 ≤ ((xA.size : Int) : Int) := of_decide_eq_true (by first | (with_reducible assumption) | assumption); have q500 : (xA.size : Int) < (t490.length : Int) := of_decide_eq_true (by first | (with_reducible assumption) | assumption); obtain ⟨ad500, e500, hx500_0⟩ := Kd.at_int (Kd.R_reads' HO_6.out).2.2 (xA.size : Int) p500 q500; cases e500; (try rw [Int.toNat_natCast] at hx500_0); replace p500 := eq_true p500; replace q500 := eq_true q500)); try go_wp2_with (first | (go_at_call 11; (with_reducible refine (order_Right.calls xA t498 _ A39.out).mono ?_); rintro e w58 ⟨rfl, hb⟩; have n0_ := Aside0.mk (Kd.R_below (by (with_reducible repeat (first | apply Kd.R_alloc | apply Kd.R_drewN | apply Kd.R_drew)); exact HO_6.out) hb); have n1_ := Aside0.mk (below_step (by repeat (first | (with_reducible first | exact HB.out | apply below_alloc | apply pw_below_drewN | apply below_drew1) | exact HB.out)) hb); clear HO_6; clear HB; have HO_6 := n0_; have HB := n1_; clear n0_ n1_; (try clear hb); (try clear hb2); (try clear hk); (try clear hi)) | (go_at_call 11; (with_reducible refine (order_Right.calls ((xA ++ (⟨#[10]⟩ : ByteArray)) ++ xB) t499 _ A42.out).mono ?_); rintro e w59 ⟨rfl, hb⟩; have n0_ := Aside0.mk (Kd.R_below (by (with_reducible repeat (first | apply Kd.R_alloc | apply Kd.R_drewN | apply Kd.R_drew)); exact HO_6.out) hb); have n1_ := Aside0.mk (below_step (by repeat (first | (with_reducible first | exact HB.out | apply below_alloc | apply pw_below_drewN | apply below_drew1) | exact HB.out)) hb); clear HO_6; clear HB; have HO_6 := n0_; have HB := n1_; clear n0_ n1_; (try clear hb); (try clear hb2); (try clear hk); (try clear hi); obtain ⟨Ao60, co60, eo60⟩ := Kd.R_slice HO_6.out; subst eo60; have p500 : 0 ≤ ((xA.size : Int) : Int) := of_decide_eq_true (by first | (with_reducible assumption) | assumption); have q500 : (xA.size : Int) < (t490.length : Int) := of_decide_eq_true (by first | (with_reducible assumption) | assumption); obtain ⟨ad500, e500, hx500_0⟩ := Kd.at_int (Kd.R_reads' HO_6.out).2.2 (xA.size : Int) p500 q500; cases e500; (try rw [Int.toNat_natCast] at hx500_0); replace p500 := eq_true p500; replace q500 := eq_true q500)))
                                                      go_ret
                                                      exact ⟨by first | rfl | (simp [errW_none, errW_some] <;> rfl) | (simp only [← hgA]; first | rfl | (simp [errW_none, errW_some] <;> rfl)) | (simp [*, errW_none, errW_some] <;> rfl), by repeat (first | (with_reducible first | exact HB.out | apply below_alloc | apply pw_below_drewN | apply below_drew1) | exact HB.out)⟩
                                                · rw [if_neg c49] at H
                                                  have c49b0 : (x8_25 == 0) = false := beq_eq_false_iff_ne.mpr c49
                                                  have c49b1 : (x8_25 != 0) = true := bne_iff_ne.mpr c49
                                                  by_cases c61 : x8_25 = 1
                                                  · rw [if_pos c61] at H
                                                    have c61b0 : (x8_25 == 1) = true := beq_iff_eq.mpr c61
                                                    have c61b1 : (x8_25 != 1) = false := bne_eq_false_iff_eq.mpr c61
                                                    clear c61
                                                    obtain rfl := Option.some.inj H
                                                    go_wp2_with (first | (go_at_call 11; (with_reducible refine (order_Right.calls xA t498 _ A39.out).mono ?_); rintro e w62 ⟨rfl, hb⟩; have n0_ := Aside0.mk (Kd.R_below (by (with_reducible repeat (first | apply Kd.R_alloc | apply Kd.R_drewN | apply Kd.R_drew)); exact HO_6.out) hb); have n1_ := Aside0.mk (below_step (by repeat (first | (with_reducible first | exact HB.out | apply below_alloc | apply pw_below_drewN | apply below_drew1) | exact HB.out)) hb); clear HO_6; clear HB; have HO_6 := n0_; have HB := n1_; clear n0_ n1_; (try clear hb); (try clear hb2); (try clear hk); (try clear hi)) | (go_at_call 11; (with_reducible refine (order_Right.calls ((xA ++ (⟨#[10]⟩ : ByteArray)) ++ xB) t499 _ A42.out).mono ?_); rintro e w63 ⟨rfl, hb⟩; have n0_ := Aside0.mk (Kd.R_below (by (with_reducible repeat (first | apply Kd.R_alloc | apply Kd.R_drewN | apply Kd.R_drew)); exact HO_6.out) hb); have n1_ := Aside0.mk (below_step (by repeat (first | (with_reducible first | exact HB.out | apply below_alloc | apply pw_below_drewN | apply below_drew1) | exact HB.out)) hb); clear HO_6; clear HB; have HO_6 := n0_; have HB := n1_; clear n0_ n1_; (try clear hb); (try clear hb2); (try clear hk); (try clear hi); obtain ⟨Ao64, co64, eo64⟩ := Kd.R_slice HO_6.out; subst eo64; have p500 : 0 ≤ ((xA.size : Int) : Int) := of_decide_eq_true (by first | (with_reducible assumption) | assumption); have q500 : (xA.size : Int) < (t490.length : Int) := of_decide_eq_true (by first | (with_reducible assumption) | assumption); obtain ⟨ad500, e500, hx500_0⟩ := Kd.at_int (Kd.R_reads' HO_6.out).2.2 (xA.size : Int) p500 q500; cases e500; (try rw [Int.toNat_natCast] at hx500_0); replace p500 := eq_true p500; replace q500 := eq_true q500))
                                                    repeat (go_quiet (first | (go_at_call 11; (with_reducible refine (order_Right.calls xA t498 _ A39.out).mono ?_); rintro e w62 ⟨rfl, hb⟩; have n0_ := Aside0.mk (Kd.R_below (by (with_reducible repeat (first | apply Kd.R_alloc | apply Kd.R_drewN | apply Kd.R_drew)); exact HO_6.out) hb); have n1_ := Aside0.mk (below_step (by repeat (first | (with_reducible first | exact HB.out | apply below_alloc | apply pw_below_drewN | apply below_drew1) | exact HB.out)) hb); clear HO_6; clear HB; have HO_6 := n0_; have HB := n1_; clear n0_ n1_; (try clear hb); (try clear hb2); (try clear hk); (try clear hi)) | (go_at_call 11; (with_reducible refine (order_Right.calls ((xA ++ (⟨#[10]⟩ : ByteArray)) ++ xB) t499 _ A42.out).mono ?_); rintro e w63 ⟨rfl, hb⟩; have n0_ := Aside0.mk (Kd.R_below (by (with_reducible repeat (first | apply Kd.R_alloc | apply Kd.R_drewN | apply Kd.R_drew)); exact HO_6.out) hb); have n1_ := Aside0.mk (below_step (by repeat (first | (with_reducible first | exact HB.out | apply below_alloc | apply pw_below_drewN | apply below_drew1) | exact HB.out)) hb); clear HO_6; clear HB; have HO_6 := n0_; have HB := n1_; clear n0_ n1_; (try clear hb); (try clear hb2); (try clear hk); (try clear hi); obtain ⟨Ao64, co64, eo64⟩ := Kd.R_slice HO_6.out; subst eo64; have p500 : 0 ≤ ((xA.size : Int) : Int) := of_decide_eq_true (by first | (with_reducible assumption) | assumption); have q500 : (xA.size : Int) < (t490.length : Int) := of_decide_eq_true (by first | (with_reducible assumption) | assumption); obtain ⟨ad500, e500, hx500_0⟩ := Kd.at_int (Kd.R_reads' HO_6.out).2.2 (xA.size : Int) p500 q500; cases e500; (try rw [Int.toNat_natCast] at hx500_0); replace p500 := eq_true p500; replace q500 := eq_true q500)); try go_wp2_with (first | (go_at_call 11; (with_reducible refine (order_Right.calls xA t498 _ A39.out).mono ?_); rintro e w62 ⟨rfl, hb⟩; have n0_ := Aside0.mk (Kd.R_below (by (with_reducible repeat (first | apply Kd.R_alloc | apply Kd.R_drewN | apply Kd.R_drew)); exact HO_6.out) hb); have n1_ := Aside0.mk (below_step (by repeat (first | (with_reducible first | exact HB.out | apply below_alloc | apply pw_below_drewN | apply below_drew1) | exact HB.out)) hb); clear HO_6; clear HB; have HO_6 := n0_; have HB := n1_; clear n0_ n1_; (try clear hb); (try clear hb2); (try clear hk); (try clear hi)) | (go_at_call 11; (with_reducible refine (order_Right.calls ((xA ++ (⟨#[10]⟩ : ByteArray)) ++ xB) t499 _ A42.out).mono ?_); rintro e w63 ⟨rfl, hb⟩; have n0_ := Aside0.mk (Kd.R_below (by (with_reducible repeat (first | apply Kd.R_alloc | apply Kd.R_drewN | apply Kd.R_drew)); exact HO_6.out) hb); have n1_ := Aside0.mk (below_step (by repeat (first | (with_reducible first | exact HB.out | apply below_alloc | apply pw_below_drewN | apply below_drew1) | exact HB.out)) hb); clear HO_6; clear HB; have HO_6 := n0_; have HB := n1_; clear n0_ n1_; (try clear hb); (try clear hb2); (try clear hk); (try clear hi); obtain ⟨Ao64, co64, eo64⟩ := Kd.R_slice HO_6.out; subst eo64; have p500 : 0 ≤ ((xA.size : Int) : Int) := of_decide_eq_true (by first | (with_reducible assumption) | assumption); have q500 : (xA.size : Int) < (t490.length : Int) := of_decide_eq_true (by first | (with_reducible assumption) | assumption); obtain ⟨ad500, e500, hx500_0⟩ := Kd.at_int (Kd.R_reads' HO_6.out).2.2 (xA.size : Int) p500 q500; cases e500; (try rw [Int.toNat_natCast] at hx500_0); replace p500 := eq_true p500; replace q500 := eq_true q500)))
                                                    go_ret
                                                    exact ⟨by first | rfl | (simp [errW_none, errW_some] <;> rfl) | (simp only [← hgA]; first | rfl | (simp [errW_none, errW_some] <;> rfl)) | (simp [*, errW_none, errW_some] <;> rfl), by repeat (first | (with_reducible first | exact HB.out | apply below_alloc | apply pw_below_drewN | apply below_drew1) | exact HB.out)⟩
                                                  · rw [if_neg c61] at H
                                                    have c61b0 : (x8_25 == 1) = false := beq_eq_false_iff_ne.mpr c61
                                                    have c61b1 : (x8_25 != 1) = true := bne_iff_ne.mpr c61
                                                    obtain rfl := Option.some.inj H
                                                    go_wp2_with (first | (go_at_call 11; (with_reducible refine (order_Right.calls xA t498 _ A39.out).mono ?_); rintro e w65 ⟨rfl, hb⟩; have n0_ := Aside0.mk (Kd.R_below (by (with_reducible repeat (first | apply Kd.R_alloc | apply Kd.R_drewN | apply Kd.R_drew)); exact HO_6.out) hb); have n1_ := Aside0.mk (below_step (by repeat (first | (with_reducible first | exact HB.out | apply below_alloc | apply pw_below_drewN | apply below_drew1) | exact HB.out)) hb); clear HO_6; clear HB; have HO_6 := n0_; have HB := n1_; clear n0_ n1_; (try clear hb); (try clear hb2); (try clear hk); (try clear hi)) | (go_at_call 11; (with_reducible refine (order_Right.calls ((xA ++ (⟨#[10]⟩ : ByteArray)) ++ xB) t499 _ A42.out).mono ?_); rintro e w66 ⟨rfl, hb⟩; have n0_ := Aside0.mk (Kd.R_below (by (with_reducible repeat (first | apply Kd.R_alloc | apply Kd.R_drewN | apply Kd.R_drew)); exact HO_6.out) hb); have n1_ := Aside0.mk (below_step (by repeat (first | (with_reducible first | exact HB.out | apply below_alloc | apply pw_below_drewN | apply below_drew1) | exact HB.out)) hb); clear HO_6; clear HB; have HO_6 := n0_; have HB := n1_; clear n0_ n1_; (try clear hb); (try clear hb2); (try clear hk); (try clear hi); obtain ⟨Ao67, co67, eo67⟩ := Kd.R_slice HO_6.out; subst eo67; have p500 : 0 ≤ ((xA.size : Int) : Int) := of_decide_eq_true (by first | (with_reducible assumption) | assumption); have q500 : (xA.size : Int) < (t490.length : Int) := of_decide_eq_true (by first | (with_reducible assumption) | assumption); obtain ⟨ad500, e500, hx500_0⟩ := Kd.at_int (Kd.R_reads' HO_6.out).2.2 (xA.size : Int) p500 q500; cases e500; (try rw [Int.toNat_natCast] at hx500_0); replace p500 := eq_true p500; replace q500 := eq_true q500))
                                                    repeat (go_quiet (first | (go_at_call 11; (with_reducible refine (order_Right.calls xA t498 _ A39.out).mono ?_); rintro e w65 ⟨rfl, hb⟩; have n0_ := Aside0.mk (Kd.R_below (by (with_reducible repeat (first | apply Kd.R_alloc | apply Kd.R_drewN | apply Kd.R_drew)); exact HO_6.out) hb); have n1_ := Aside0.mk (below_step (by repeat (first | (with_reducible first | exact HB.out | apply below_alloc | apply pw_below_drewN | apply below_drew1) | exact HB.out)) hb); clear HO_6; clear HB; have HO_6 := n0_; have HB := n1_; clear n0_ n1_; (try clear hb); (try clear hb2); (try clear hk); (try clear hi)) | (go_at_call 11; (with_reducible refine (order_Right.calls ((xA ++ (⟨#[10]⟩ : ByteArray)) ++ xB) t499 _ A42.out).mono ?_); rintro e w66 ⟨rfl, hb⟩; have n0_ := Aside0.mk (Kd.R_below (by (with_reducible repeat (first | apply Kd.R_alloc | apply Kd.R_drewN | apply Kd.R_drew)); exact HO_6.out) hb); have n1_ := Aside0.mk (below_step (by repeat (first | (with_reducible first | exact HB.out | apply below_alloc | apply pw_below_drewN | apply below_drew1) | exact HB.out)) hb); clear HO_6; clear HB; have HO_6 := n0_; have HB := n1_; clear n0_ n1_; (try clear hb); (try clear hb2); (try clear hk); (try clear hi); obtain ⟨Ao67, co67, eo67⟩ := Kd.R_slice HO_6.out; subst eo67; have p500 : 0 ≤ ((xA.size : Int) : Int) := of_decide_eq_true (by first | (with_reducible assumption) | assumption); have q500 : (xA.size : Int) < (t490.length : Int) := of_decide_eq_true (by first | (with_reducible assumption) | assumption); obtain ⟨ad500, e500, hx500_0⟩ := Kd.at_int (Kd.R_reads' HO_6.out).2.2 (xA.size : Int) p500 q500; cases e500; (try rw [Int.toNat_natCast] at hx500_0); replace p500 := eq_true p500; replace q500 := eq_true q500)); try go_wp2_with (first | (go_at_call 11; (with_reducible refine (order_Right.calls xA t498 _ A39.out).mono ?_); rintro e w65 ⟨rfl, hb⟩; have n0_ := Aside0.mk (Kd.R_below (by (with_reducible repeat (first | apply Kd.R_alloc | apply Kd.R_drewN | apply Kd.R_drew)); exact HO_6.out) hb); have n1_ := Aside0.mk (below_step (by repeat (first | (with_reducible first | exact HB.out | apply below_alloc | apply pw_below_drewN | apply below_drew1) | exact HB.out)) hb); clear HO_6; clear HB; have HO_6 := n0_; have HB := n1_; clear n0_ n1_; (try clear hb); (try clear hb2); (try clear hk); (try clear hi)) | (go_at_call 11; (with_reducible refine (order_Right.calls ((xA ++ (⟨#[10]⟩ : ByteArray)) ++ xB) t499 _ A42.out).mono ?_); rintro e w66 ⟨rfl, hb⟩; have n0_ := Aside0.mk (Kd.R_below (by (with_reducible repeat (first | apply Kd.R_alloc | apply Kd.R_drewN | apply Kd.R_drew)); exact HO_6.out) hb); have n1_ := Aside0.mk (below_step (by repeat (first | (with_reducible first | exact HB.out | apply below_alloc | apply pw_below_drewN | apply below_drew1) | exact HB.out)) hb); clear HO_6; clear HB; have HO_6 := n0_; have HB := n1_; clear n0_ n1_; (try clear hb); (try clear hb2); (try clear hk); (try clear hi); obtain ⟨Ao67, co67, eo67⟩ := Kd.R_slice HO_6.out; subst eo67; have p500 : 0 ≤ ((xA.size : Int) : Int) := of_decide_eq_true (by first | (with_reducible assumption) | assumption); have q500 : (xA.size : Int) < (t490.length : Int) := of_decide_eq_true (by first | (with_reducible assumption) | assumption); obtain ⟨ad500, e500, hx500_0⟩ := Kd.at_int (Kd.R_reads' HO_6.out).2.2 (xA.size : Int) p500 q500; cases e500; (try rw [Int.toNat_natCast] at hx500_0); replace p500 := eq_true p500; replace q500 := eq_true q500)))
                                                    go_ret
                                                    exact ⟨by first | rfl | (simp [errW_none, errW_some] <;> rfl) | (simp only [← hgA]; first | rfl | (simp [errW_none, errW_some] <;> rfl)) | (simp [*, errW_none, errW_some] <;> rfl), by repeat (first | (with_reducible first | exact HB.out | apply below_alloc | apply pw_below_drewN | apply below_drew1) | exact HB.out)⟩
                                              · replace c48 := Bool.eq_false_iff.mpr c48
                                                subst c48
                                                have H1 : (some false) = some r := by rw [if_neg (show ¬ (false = true) by decide)] at H; exact H
                                                clear H
                                                have H := H1
                                                clear H1
                                                obtain rfl := Option.some.inj H
                                                go_wp2_with (first | (go_at_call 11; (with_reducible refine (order_Right.calls xA t498 _ A39.out).mono ?_); rintro e w68 ⟨rfl, hb⟩; have n0_ := Aside0.mk (Kd.R_below (by (with_reducible repeat (first | apply Kd.R_alloc | apply Kd.R_drewN | apply Kd.R_drew)); exact HO_6.out) hb); have n1_ := Aside0.mk (below_step (by repeat (first | (with_reducible first | exact HB.out | apply below_alloc | apply pw_below_drewN | apply below_drew1) | exact HB.out)) hb); clear HO_6; clear HB; have HO_6 := n0_; have HB := n1_; clear n0_ n1_; (try clear hb); (try clear hb2); (try clear hk); (try clear hi)) | (go_at_call 11; (with_reducible refine (order_Right.calls ((xA ++ (⟨#[10]⟩ : ByteArray)) ++ xB) t499 _ A42.out).mono ?_); rintro e w69 ⟨rfl, hb⟩; have n0_ := Aside0.mk (Kd.R_below (by (with_reducible repeat (first | apply Kd.R_alloc | apply Kd.R_drewN | apply Kd.R_drew)); exact HO_6.out) hb); have n1_ := Aside0.mk (below_step (by repeat (first | (with_reducible first | exact HB.out | apply below_alloc | apply pw_below_drewN | apply below_drew1) | exact HB.out)) hb); clear HO_6; clear HB; have HO_6 := n0_; have HB := n1_; clear n0_ n1_; (try clear hb); (try clear hb2); (try clear hk); (try clear hi); obtain ⟨Ao70, co70, eo70⟩ := Kd.R_slice HO_6.out; subst eo70; have p500 : 0 ≤ ((xA.size : Int) : Int) := of_decide_eq_true (by first | (with_reducible assumption) | assumption); have q500 : (xA.size : Int) < (t490.length : Int) := of_decide_eq_true (by first | (with_reducible assumption) | assumption); obtain ⟨ad500, e500, hx500_0⟩ := Kd.at_int (Kd.R_reads' HO_6.out).2.2 (xA.size : Int) p500 q500; cases e500; (try rw [Int.toNat_natCast] at hx500_0); replace p500 := eq_true p500; replace q500 := eq_true q500))
                                                repeat (go_quiet (first | (go_at_call 11; (with_reducible refine (order_Right.calls xA t498 _ A39.out).mono ?_); rintro e w68 ⟨rfl, hb⟩; have n0_ := Aside0.mk (Kd.R_below (by (with_reducible repeat (first | apply Kd.R_alloc | apply Kd.R_drewN | apply Kd.R_drew)); exact HO_6.out) hb); have n1_ := Aside0.mk (below_step (by repeat (first | (with_reducible first | exact HB.out | apply below_alloc | apply pw_below_drewN | apply below_drew1) | exact HB.out)) hb); clear HO_6; clear HB; have HO_6 := n0_; have HB := n1_; clear n0_ n1_; (try clear hb); (try clear hb2); (try clear hk); (try clear hi)) | (go_at_call 11; (with_reducible refine (order_Right.calls ((xA ++ (⟨#[10]⟩ : ByteArray)) ++ xB) t499 _ A42.out).mono ?_); rintro e w69 ⟨rfl, hb⟩; have n0_ := Aside0.mk (Kd.R_below (by (with_reducible repeat (first | apply Kd.R_alloc | apply Kd.R_drewN | apply Kd.R_drew)); exact HO_6.out) hb); have n1_ := Aside0.mk (below_step (by repeat (first | (with_reducible first | exact HB.out | apply below_alloc | apply pw_below_drewN | apply below_drew1) | exact HB.out)) hb); clear HO_6; clear HB; have HO_6 := n0_; have HB := n1_; clear n0_ n1_; (try clear hb); (try clear hb2); (try clear hk); (try clear hi); obtain ⟨Ao70, co70, eo70⟩ := Kd.R_slice HO_6.out; subst eo70; have p500 : 0 ≤ ((xA.size : Int) : Int) := of_decide_eq_true (by first | (with_reducible assumption) | assumption); have q500 : (xA.size : Int) < (t490.length : Int) := of_decide_eq_true (by first | (with_reducible assumption) | assumption); obtain ⟨ad500, e500, hx500_0⟩ := Kd.at_int (Kd.R_reads' HO_6.out).2.2 (xA.size : Int) p500 q500; cases e500; (try rw [Int.toNat_natCast] at hx500_0); replace p500 := eq_true p500; replace q500 := eq_true q500)); try go_wp2_with (first | (go_at_call 11; (with_reducible refine (order_Right.calls xA t498 _ A39.out).mono ?_); rintro e w68 ⟨rfl, hb⟩; have n0_ := Aside0.mk (Kd.R_below (by (with_reducible repeat (first | apply Kd.R_alloc | apply Kd.R_drewN | apply Kd.R_drew)); exact HO_6.out) hb); have n1_ := Aside0.mk (below_step (by repeat (first | (with_reducible first | exact HB.out | apply below_alloc | apply pw_below_drewN | apply below_drew1) | exact HB.out)) hb); clear HO_6; clear HB; have HO_6 := n0_; have HB := n1_; clear n0_ n1_; (try clear hb); (try clear hb2); (try clear hk); (try clear hi)) | (go_at_call 11; (with_reducible refine (order_Right.calls ((xA ++ (⟨#[10]⟩ : ByteArray)) ++ xB) t499 _ A42.out).mono ?_); rintro e w69 ⟨rfl, hb⟩; have n0_ := Aside0.mk (Kd.R_below (by (with_reducible repeat (first | apply Kd.R_alloc | apply Kd.R_drewN | apply Kd.R_drew)); exact HO_6.out) hb); have n1_ := Aside0.mk (below_step (by repeat (first | (with_reducible first | exact HB.out | apply below_alloc | apply pw_below_drewN | apply below_drew1) | exact HB.out)) hb); clear HO_6; clear HB; have HO_6 := n0_; have HB := n1_; clear n0_ n1_; (try clear hb); (try clear hb2); (try clear hk); (try clear hi); obtain ⟨Ao70, co70, eo70⟩ := Kd.R_slice HO_6.out; subst eo70; have p500 : 0 ≤ ((xA.size : Int) : Int) := of_decide_eq_true (by first | (with_reducible assumption) | assumption); have q500 : (xA.size : Int) < (t490.length : Int) := of_decide_eq_true (by first | (with_reducible assumption) | assumption); obtain ⟨ad500, e500, hx500_0⟩ := Kd.at_int (Kd.R_reads' HO_6.out).2.2 (xA.size : Int) p500 q500; cases e500; (try rw [Int.toNat_natCast] at hx500_0); replace p500 := eq_true p500; replace q500 := eq_true q500)))
                                                go_ret
                                                exact ⟨by first | rfl | (simp [errW_none, errW_some] <;> rfl) | (simp only [← hgA]; first | rfl | (simp [errW_none, errW_some] <;> rfl)) | (simp [*, errW_none, errW_some] <;> rfl), by repeat (first | (with_reducible first | exact HB.out | apply below_alloc | apply pw_below_drewN | apply below_drew1) | exact HB.out)⟩
                                            · rw [if_neg c47] at H
                                              exact absurd H (by simp)
                                          · rw [if_neg c46] at H
                                            exact absurd H (by simp)
                                      · rw [if_neg c41] at H
                                        exact absurd H (by simp)
                                    · rw [if_neg c40] at H
                                      exact absurd H (by simp)
                                  · replace c38 := Bool.eq_false_iff.mpr c38
                                    subst c38
                                    have H1 : (if 0 ≤ (xA.size : Int) then (if (xA.size : Int) < (t490.length : Int) then (if t489 = true then (if x8_25 = 0 then (if (rd t490 (xA.size : Int)) = 0 then (some true) else (if x8_25 = 1 then (some ((rd t490 (xA.size : Int)) == 1)) else (some false))) else (if x8_25 = 1 then (some ((rd t490 (xA.size : Int)) == 1)) else (some false))) else (some false)) else (none)) else (none)) = some r := by rw [if_neg (show ¬ (false = true) by decide)] at H; exact H
                                    clear H
                                    have H := H1
                                    clear H1
                                    by_cases c71 : 0 ≤ (xA.size : Int)
                                    · rw [if_pos c71] at H
                                      have c71b0 : decide (0 ≤ (xA.size : Int)) = true := decide_eq_true c71
                                      have c71b1 : decide (0 ≤ xA.size) = true := decide_eq_true (by omega)
                                      clear c71
                                      by_cases c72 : (xA.size : Int) < (t490.length : Int)
                                      · rw [if_pos c72] at H
                                        have c72b0 : decide ((xA.size : Int) < (t490.length : Int)) = true := decide_eq_true c72
                                        have c72b1 : decide (xA.size < t490.length) = true := decide_eq_true (Int.ofNat_lt.mp c72)
                                        clear c72
                                        by_cases c73 : t489 = true
                                        · subst c73
                                          have H1 : (if x8_25 = 0 then (if (rd t490 (xA.size : Int)) = 0 then (some true) else (if x8_25 = 1 then (some ((rd t490 (xA.size : Int)) == 1)) else (some false))) else (if x8_25 = 1 then (some ((rd t490 (xA.size : Int)) == 1)) else (some false))) = some r := by rw [if_pos rfl] at H; exact H
                                          clear H
                                          have H := H1
                                          clear H1
                                          by_cases c74 : x8_25 = 0
                                          · rw [if_pos c74] at H
                                            have c74b0 : (x8_25 == 0) = true := beq_iff_eq.mpr c74
                                            have c74b1 : (x8_25 != 0) = false := bne_eq_false_iff_eq.mpr c74
                                            clear c74
                                            by_cases c75 : (rd t490 (xA.size : Int)) = 0
                                            · rw [if_pos c75] at H
                                              have c75b0 : ((rd t490 (xA.size : Int)) == 0) = true := beq_iff_eq.mpr c75
                                              have c75b1 : ((rd t490 (xA.size : Int)) != 0) = false := bne_eq_false_iff_eq.mpr c75
                                              clear c75
                                              obtain rfl := Option.some.inj H
                                              obtain ⟨Ao76, co76, eo76⟩ := Kd.R_slice HO_6.out
                                              subst eo76
                                              have p501 : 0 ≤ ((xA.size : Int) : Int) := of_decide_eq_true (by first | (with_reducible assumption) | assumption)
                                              have q501 : (xA.size : Int) < (t490.length : Int) := of_decide_eq_true (by first | (with_reducible assumption) | assumption)
                                              obtain ⟨ad501, e501, hx501_0⟩ := Kd.at_int (Kd.R_reads' HO_6.out).2.2 (xA.size : Int) p501 q501
                                              cases e501
                                              (try rw [Int.toNat_natCast] at hx501_0)
                                              replace p501 := eq_true p501
                                              replace q501 := eq_true q501
                                              go_wp2
                                              repeat (go_quiet (fail); try go_wp2)
                                              go_ret
                                              exact ⟨by first | rfl | (simp [errW_none, errW_some] <;> rfl) | (simp only [← hgA]; first | rfl | (simp [errW_none, errW_some] <;> rfl)) | (simp [*, errW_none, errW_some] <;> rfl), by repeat (first | (with_reducible first | exact HB.out | apply below_alloc | apply pw_below_drewN | apply below_drew1) | exact HB.out)⟩
                                            · rw [if_neg c75] at H
                                              have c75b0 : ((rd t490 (xA.size : Int)) == 0) = false := beq_eq_false_iff_ne.mpr c75
                                              have c75b1 : ((rd t490 (xA.size : Int)) != 0) = true := bne_iff_ne.mpr c75
                                              by_cases c77 : x8_25 = 1
                                              · rw [if_pos c77] at H
                                                have c77b0 : (x8_25 == 1) = true := beq_iff_eq.mpr c77
                                                have c77b1 : (x8_25 != 1) = false := bne_eq_false_iff_eq.mpr c77
                                                clear c77
                                                obtain rfl := Option.some.inj H
                                                obtain ⟨Ao78, co78, eo78⟩ := Kd.R_slice HO_6.out
                                                subst eo78
                                                have p501 : 0 ≤ ((xA.size : Int) : Int) := of_decide_eq_true (by first | (with_reducible assumption) | assumption)
                                                have q501 : (xA.size : Int) < (t490.length : Int) := of_decide_eq_true (by first | (with_reducible assumption) | assumption)
                                                obtain ⟨ad501, e501, hx501_0⟩ := Kd.at_int (Kd.R_reads' HO_6.out).2.2 (xA.size : Int) p501 q501
                                                cases e501
                                                (try rw [Int.toNat_natCast] at hx501_0)
                                                replace p501 := eq_true p501
                                                replace q501 := eq_true q501
                                                go_wp2
                                                repeat (go_quiet (fail); try go_wp2)
                                                go_ret
                                                exact ⟨by first | rfl | (simp [errW_none, errW_some] <;> rfl) | (simp only [← hgA]; first | rfl | (simp [errW_none, errW_some] <;> rfl)) | (simp [*, errW_none, errW_some] <;> rfl), by repeat (first | (with_reducible first | exact HB.out | apply below_alloc | apply pw_below_drewN | apply below_drew1) | exact HB.out)⟩
                                              · rw [if_neg c77] at H
                                                have c77b0 : (x8_25 == 1) = false := beq_eq_false_iff_ne.mpr c77
                                                have c77b1 : (x8_25 != 1) = true := bne_iff_ne.mpr c77
                                                obtain rfl := Option.some.inj H
                                                obtain ⟨Ao79, co79, eo79⟩ := Kd.R_slice HO_6.out
                                                subst eo79
                                                have p501 : 0 ≤ ((xA.size : Int) : Int) := of_decide_eq_true (by first | (with_reducible assumption) | assumption)
                                                have q501 : (xA.size : Int) < (t490.length : Int) := of_decide_eq_true (by first | (with_reducible assumption) | assumption)
                                                obtain ⟨ad501, e501, hx501_0⟩ := Kd.at_int (Kd.R_reads' HO_6.out).2.2 (xA.size : Int) p501 q501
                                                cases e501
                                                (try rw [Int.toNat_natCast] at hx501_0)
                                                replace p501 := eq_true p501
                                                replace q501 := eq_true q501
                                                go_wp2
                                                repeat (go_quiet (fail); try go_wp2)
                                                go_ret
                                                exact ⟨by first | rfl | (simp [errW_none, errW_some] <;> rfl) | (simp only [← hgA]; first | rfl | (simp [errW_none, errW_some] <;> rfl)) | (simp [*, errW_none, errW_some] <;> rfl), by repeat (first | (with_reducible first | exact HB.out | apply below_alloc | apply pw_below_drewN | apply below_drew1) | exact HB.out)⟩
                                          · rw [if_neg c74] at H
                                            have c74b0 : (x8_25 == 0) = false := beq_eq_false_iff_ne.mpr c74
                                            have c74b1 : (x8_25 != 0) = true := bne_iff_ne.mpr c74
                                            by_cases c80 : x8_25 = 1
                                            · rw [if_pos c80] at H
                                              have c80b0 : (x8_25 == 1) = true := beq_iff_eq.mpr c80
                                              have c80b1 : (x8_25 != 1) = false := bne_eq_false_iff_eq.mpr c80
                                              clear c80
                                              obtain rfl := Option.some.inj H
                                              obtain ⟨Ao81, co81, eo81⟩ := Kd.R_slice HO_6.out
                                              subst eo81
                                              have p501 : 0 ≤ ((xA.size : Int) : Int) := of_decide_eq_true (by first | (with_reducible assumption) | assumption)
                                              have q501 : (xA.size : Int) < (t490.length : Int) := of_decide_eq_true (by first | (with_reducible assumption) | assumption)
                                              obtain ⟨ad501, e501, hx501_0⟩ := Kd.at_int (Kd.R_reads' HO_6.out).2.2 (xA.size : Int) p501 q501
                                              cases e501
                                              (try rw [Int.toNat_natCast] at hx501_0)
                                              replace p501 := eq_true p501
                                              replace q501 := eq_true q501
                                              go_wp2
                                              repeat (go_quiet (fail); try go_wp2)
                                              go_ret
                                              exact ⟨by first | rfl | (simp [errW_none, errW_some] <;> rfl) | (simp only [← hgA]; first | rfl | (simp [errW_none, errW_some] <;> rfl)) | (simp [*, errW_none, errW_some] <;> rfl), by repeat (first | (with_reducible first | exact HB.out | apply below_alloc | apply pw_below_drewN | apply below_drew1) | exact HB.out)⟩
                                            · rw [if_neg c80] at H
                                              have c80b0 : (x8_25 == 1) = false := beq_eq_false_iff_ne.mpr c80
                                              have c80b1 : (x8_25 != 1) = true := bne_iff_ne.mpr c80
                                              obtain rfl := Option.some.inj H
                                              obtain ⟨Ao82, co82, eo82⟩ := Kd.R_slice HO_6.out
                                              subst eo82
                                              have p501 : 0 ≤ ((xA.size : Int) : Int) := of_decide_eq_true (by first | (with_reducible assumption) | assumption)
                                              have q501 : (xA.size : Int) < (t490.length : Int) := of_decide_eq_true (by first | (with_reducible assumption) | assumption)
                                              obtain ⟨ad501, e501, hx501_0⟩ := Kd.at_int (Kd.R_reads' HO_6.out).2.2 (xA.size : Int) p501 q501
                                              cases e501
                                              (try rw [Int.toNat_natCast] at hx501_0)
                                              replace p501 := eq_true p501
                                              replace q501 := eq_true q501
                                              go_wp2
                                              repeat (go_quiet (fail); try go_wp2)
                                              go_ret
                                              exact ⟨by first | rfl | (simp [errW_none, errW_some] <;> rfl) | (simp only [← hgA]; first | rfl | (simp [errW_none, errW_some] <;> rfl)) | (simp [*, errW_none, errW_some] <;> rfl), by repeat (first | (with_reducible first | exact HB.out | apply below_alloc | apply pw_below_drewN | apply below_drew1) | exact HB.out)⟩
                                        · replace c73 := Bool.eq_false_iff.mpr c73
                                          subst c73
                                          have H1 : (some false) = some r := by rw [if_neg (show ¬ (false = true) by decide)] at H; exact H
                                          clear H
                                          have H := H1
                                          clear H1
                                          obtain rfl := Option.some.inj H
                                          obtain ⟨Ao83, co83, eo83⟩ := Kd.R_slice HO_6.out
                                          subst eo83
                                          have p501 : 0 ≤ ((xA.size : Int) : Int) := of_decide_eq_true (by first | (with_reducible assumption) | assumption)
                                          have q501 : (xA.size : Int) < (t490.length : Int) := of_decide_eq_true (by first | (with_reducible assumption) | assumption)
                                          obtain ⟨ad501, e501, hx501_0⟩ := Kd.at_int (Kd.R_reads' HO_6.out).2.2 (xA.size : Int) p501 q501
                                          cases e501
                                          (try rw [Int.toNat_natCast] at hx501_0)
                                          replace p501 := eq_true p501
                                          replace q501 := eq_true q501
                                          go_wp2
                                          repeat (go_quiet (fail); try go_wp2)
                                          go_ret
                                          exact ⟨by first | rfl | (simp [errW_none, errW_some] <;> rfl) | (simp only [← hgA]; first | rfl | (simp [errW_none, errW_some] <;> rfl)) | (simp [*, errW_none, errW_some] <;> rfl), by repeat (first | (with_reducible first | exact HB.out | apply below_alloc | apply pw_below_drewN | apply below_drew1) | exact HB.out)⟩
                                      · rw [if_neg c72] at H
                                        exact absurd H (by simp)
                                    · rw [if_neg c71] at H
                                      exact absurd H (by simp)
                      · rw [if_neg c24] at H
                        exact absurd H (by simp)
                    · rw [if_neg c23] at H
                      exact absurd H (by simp)
            · rw [if_neg c11] at H
              exact absurd H (by simp)
          · rw [if_neg c10] at H
            exact absurd H (by simp)
        · rw [if_neg c9] at H
          exact absurd H (by simp)
      · rw [if_neg c8] at H
        exact absurd H (by simp)
    · rw [if_neg c6] at H
      exact absurd H (by simp)
  · rw [if_neg c5] at H
    exact absurd H (by simp)

/-- THE ONE PURE STATEMENT of abugidalaw07_OrderApart: yours. -/
def abugidalaw07_OrderApart.Pure : Prop := ∀ (a0 : ByteArray) (a1 : ByteArray), a0.size ≤ 140737488351232 → a1.size ≤ 140737488351232 → ∃ k, abugidalaw07_OrderApart.f k a0 a1 = some true
theorem abugidalaw07_OrderApart.walk (P : abugidalaw07_OrderApart.Pure) (a0 : ByteArray) (a1 : ByteArray) (w : World) (w0 : a0.size ≤ 140737488351232) (w1 : a1.size ≤ 140737488351232) :
    Calls Try.prog 8 #[.string a0, .string a1] w fun e w' => e = .returned (.bool true) ∧ Below w.heap.size w w' := by
  obtain ⟨k, h⟩ := P a0 a1 w0 w1
  refine (abugidalaw07_OrderApart.calls k a0 a1 true w h).mono ?_
  rintro e w' ⟨rfl, hd⟩
  exact ⟨rfl, hd⟩

end Go.Proofs.Ytacnckneiklgpaa.Q

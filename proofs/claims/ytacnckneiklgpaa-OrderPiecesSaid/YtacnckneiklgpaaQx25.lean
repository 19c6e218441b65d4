-- Written by wip/tools/myprint.py, a program of this session that drives the kit's print.py; not a text of print.sh.
import Derived.Test.YtacnckneiklgpaaQx0
import Derived.Test.YtacnckneiklgpaaQx3
import Derived.Test.YtacnckneiklgpaaQx13
import Derived.Test.YtacnckneiklgpaaQx14
import Derived.Test.YtacnckneiklgpaaQx23
namespace Go.Proofs.Ytacnckneiklgpaa.Q
open Go.RowKit Go.Proofs.YtacnckneiklgpaaW.PrintWords Go.Proofs.YtacnckneiklgpaaW.PrintLast Go.Proofs.YtacnckneiklgpaaW.PrintMore
attribute [local go_sem] max2_int min2_int max_two min_two max_three min_three max_four min_four   -- for this text's walks alone
set_option linter.unusedVariables false
set_option linter.unusedSimpArgs false

/-! ### abugidalaw07_OrderPieces: function 7 -/
mutual
def abugidalaw07_OrderPieces.l0 : Nat → Int → Bool → List Int → List Int → List Int → List Int → Int → Int → Option (Bool)
  | 0, _, _, _, _, _, _, _, _ => none
  | k + 1, x1, x5, x6, x7, x8, x25, x26, x27 => if x27 < x26 then (if 0 ≤ x27 then (if x27 < (x25.length : Int) then ((abugidaref01_Mod.f (rd x25 x27) 8).bind fun t455 => (if x6.length < 17592186044416 then ((abugidaref01_Mod.f (rd x25 x27) 8).bind fun t459 => (if x7.length < 17592186044416 then ((abugidaref01_Mod.f (rd x25 x27) 8).bind fun t463 => (if x8.length < 17592186044416 then (abugidalaw07_OrderPieces.l0 k x1 x5 (x6 ++ [t455]) (x7 ++ [wrap64 (t459 + 1)]) (x8 ++ [wrap64 (t463 + 2)]) x25 x26 (wrap64 (x27 + 1))) else (none))) else (none))) else (none))) else (none)) else (none)) else ((order_Visual.f x6).bind fun t467 => ((order_Visual.f x7).bind fun t470 => (if (t467.length : Int) = (x6.length : Int) then (if (t470.length : Int) = (x6.length : Int) then ((order_Visual.f x8).bind fun t473 => ((abugidaref07_Equal.f k t473 t467).bind fun t476 => (abugidalaw07_OrderPieces.j1 k x1 x5 x6 t467 t470 (!t476)))) else (abugidalaw07_OrderPieces.j1 k x1 x5 x6 t467 t470 true)) else (abugidalaw07_OrderPieces.j1 k x1 x5 x6 t467 t470 true))))
def abugidalaw07_OrderPieces.j1 : Nat → Int → Bool → List Int → List Int → List Int → Bool → Option (Bool)
  | 0, _, _, _, _, _, _ => none
  | k + 1, x1, x5, x6, x11, x12, x71 => if x71 = true then (some false) else (if 0 ≤ (x6.length : Int) then (if ((x6.length : Int) : Int).toNat ≤ 35184372088832 then (abugidalaw07_OrderPieces.l1 k x1 x5 x6 x12 (List.replicate ((x6.length : Int) : Int).toNat 0) x11 (x11.length : Int) 0) else (none)) else (none))
def abugidalaw07_OrderPieces.l1 : Nat → Int → Bool → List Int → List Int → List Int → List Int → Int → Int → Option (Bool)
  | 0, _, _, _, _, _, _, _, _ => none
  | k + 1, x1, x5, x6, x12, x13, x75, x76, x77 => if x77 < x76 then (if 0 ≤ x77 then (if x77 < (x75.length : Int) then (if (rd x75 x77) < 0 then (some false) else (if (rd x75 x77) ≥ (x6.length : Int) then (some false) else (if 0 ≤ (wrap64 ((wrap64 ((x12.length : Int) - 1)) - x77)) then (if (wrap64 ((wrap64 ((x12.length : Int) - 1)) - x77)) < (x12.length : Int) then (if (rd x12 (wrap64 ((wrap64 ((x12.length : Int) - 1)) - x77))) = (rd x75 x77) then (if 0 ≤ (rd x75 x77) then (if (rd x75 x77) < (x13.length : Int) then (abugidalaw07_OrderPieces.l1 k x1 x5 x6 x12 (x13.set ((rd x75 x77) : Int).toNat x77) x75 x76 (wrap64 (x77 + 1))) else (none)) else (none)) else (some false)) else (none)) else (none)))) else (none)) else (none)) else (abugidalaw07_OrderPieces.l2 k x1 x5 x6 x13 0)
def abugidalaw07_OrderPieces.l2 : Nat → Int → Bool → List Int → List Int → Int → Option (Bool)
  | 0, _, _, _, _, _ => none
  | k + 1, x1, x5, x6, x13, x16 => if x16 < (x6.length : Int) then (if 0 ≤ x16 then (if (rd x6 x16) < (Int.tmod (wrap64 (x1)) 9) then (abugidalaw07_OrderPieces.l2 k x1 x5 x6 x13 (wrap64 (x16 + 1))) else (if x16 < (x13.length : Int) then (abugidalaw07_OrderPieces.l3 k x1 x5 x6 x13 x16 (rd x13 x16) (rd x13 x16) x16) else (none))) else (none)) else (some x5)
def abugidalaw07_OrderPieces.l3 : Nat → Int → Bool → List Int → List Int → Int → Int → Int → Int → Option (Bool)
  | 0, _, _, _, _, _, _, _, _ => none
  | k + 1, x1, x5, x6, x13, x16, x17, x18, x19 => if x19 < (x6.length : Int) then (if 0 ≤ x19 then (if (rd x6 x19) ≥ (Int.tmod (wrap64 (x1)) 9) then (if x19 < (x13.length : Int) then (abugidalaw07_OrderPieces.l3 k x1 x5 x6 x13 x16 (mn x17 (rd x13 x19)) (mx x18 (rd x13 x19)) (wrap64 (x19 + 1))) else (none)) else (if (wrap64 (x18 - x17)) = (wrap64 ((wrap64 (x19 - 1)) - x16)) then (abugidalaw07_OrderPieces.l2 k x1 x5 x6 x13 (wrap64 (x19 + 1))) else (some false))) else (none)) else (if (wrap64 (x18 - x17)) = (wrap64 ((wrap64 (x19 - 1)) - x16)) then (abugidalaw07_OrderPieces.l2 k x1 x5 x6 x13 (wrap64 (x19 + 1))) else (some false))
end
def abugidalaw07_OrderPieces.f (k : Nat) (l0 : List Int) (a1 : Int) : Option (Bool) := (abugidalaw07_sanity.f k).bind fun t452 => (if 0 ≤ (mn (l0.length : Int) 60) then (if (mn (l0.length : Int) 60) ≤ (l0.length : Int) then (abugidalaw07_OrderPieces.l0 k a1 t452 ([] : List Int) ([] : List Int) ([] : List Int) (l0.take ((mn (l0.length : Int) 60) : Int).toNat) ((l0.take ((mn (l0.length : Int) 60) : Int).toNat).length : Int) 0) else (none)) else (none))
theorem abugidalaw07_OrderPieces.mono_l : ∀ k, (∀ y0 y1 y2 y3 y4 y5 y6 y7, LeO (abugidalaw07_OrderPieces.l0 k y0 y1 y2 y3 y4 y5 y6 y7) (abugidalaw07_OrderPieces.l0 (k + 1) y0 y1 y2 y3 y4 y5 y6 y7)) ∧ (∀ y0 y1 y2 y3 y4 y5, LeO (abugidalaw07_OrderPieces.j1 k y0 y1 y2 y3 y4 y5) (abugidalaw07_OrderPieces.j1 (k + 1) y0 y1 y2 y3 y4 y5)) ∧ (∀ y0 y1 y2 y3 y4 y5 y6 y7, LeO (abugidalaw07_OrderPieces.l1 k y0 y1 y2 y3 y4 y5 y6 y7) (abugidalaw07_OrderPieces.l1 (k + 1) y0 y1 y2 y3 y4 y5 y6 y7)) ∧ (∀ y0 y1 y2 y3 y4, LeO (abugidalaw07_OrderPieces.l2 k y0 y1 y2 y3 y4) (abugidalaw07_OrderPieces.l2 (k + 1) y0 y1 y2 y3 y4)) ∧ (∀ y0 y1 y2 y3 y4 y5 y6 y7, LeO (abugidalaw07_OrderPieces.l3 k y0 y1 y2 y3 y4 y5 y6 y7) (abugidalaw07_OrderPieces.l3 (k + 1) y0 y1 y2 y3 y4 y5 y6 y7))
  | 0 => ⟨fun _ _ _ _ _ _ _ _ r h => by simp [abugidalaw07_OrderPieces.l0] at h, fun _ _ _ _ _ _ r h => by simp [abugidalaw07_OrderPieces.j1] at h, fun _ _ _ _ _ _ _ _ r h => by simp [abugidalaw07_OrderPieces.l1] at h, fun _ _ _ _ _ r h => by simp [abugidalaw07_OrderPieces.l2] at h, fun _ _ _ _ _ _ _ _ r h => by simp [abugidalaw07_OrderPieces.l3] at h⟩
  | k + 1 => by
    obtain ⟨ih0, ih1, ih2, ih3, ih4⟩ := abugidalaw07_OrderPieces.mono_l k
    refine ⟨?_, ?_, ?_, ?_, ?_⟩
    · intro y0 y1 y2 y3 y4 y5 y6 y7
      unfold abugidalaw07_OrderPieces.l0
      repeat' first
      | (with_reducible exact ih0 _ _ _ _ _ _ _ _)
      | (with_reducible exact ih1 _ _ _ _ _ _)
      | (with_reducible exact ih2 _ _ _ _ _ _ _ _)
      | (with_reducible exact ih3 _ _ _ _ _)
      | (with_reducible exact ih4 _ _ _ _ _ _ _ _)
      | (with_reducible exact abugidalaw07_sanity.mono _)
      | (with_reducible exact abugidaref07_Equal.mono _ _ _)
      | (with_reducible exact LeO.refl _)
      | (with_reducible exact LeO.none _)
      | (with_reducible refine LeO.ite ?_ ?_)
      | (with_reducible refine LeO.bind ?_ (fun _ => ?_))
      | exact ih0 _ _ _ _ _ _ _ _
      | exact ih1 _ _ _ _ _ _
      | exact ih2 _ _ _ _ _ _ _ _
      | exact ih3 _ _ _ _ _
      | exact ih4 _ _ _ _ _ _ _ _
      | exact abugidalaw07_sanity.mono _
      | exact abugidaref07_Equal.mono _ _ _
      | exact LeO.none _
      | refine LeO.ite ?_ ?_
      | refine LeO.bind ?_ (fun _ => ?_)
    · intro y0 y1 y2 y3 y4 y5
      unfold abugidalaw07_OrderPieces.j1
      repeat' first
      | (with_reducible exact ih0 _ _ _ _ _ _ _ _)
      | (with_reducible exact ih1 _ _ _ _ _ _)
      | (with_reducible exact ih2 _ _ _ _ _ _ _ _)
      | (with_reducible exact ih3 _ _ _ _ _)
      | (with_reducible exact ih4 _ _ _ _ _ _ _ _)
      | (with_reducible exact abugidalaw07_sanity.mono _)
      | (with_reducible exact abugidaref07_Equal.mono _ _ _)
      | (with_reducible exact LeO.refl _)
      | (with_reducible exact LeO.none _)
      | (with_reducible refine LeO.ite ?_ ?_)
      | (with_reducible refine LeO.bind ?_ (fun _ => ?_))
      | exact ih0 _ _ _ _ _ _ _ _
      | exact ih1 _ _ _ _ _ _
      | exact ih2 _ _ _ _ _ _ _ _
      | exact ih3 _ _ _ _ _
      | exact ih4 _ _ _ _ _ _ _ _
      | exact abugidalaw07_sanity.mono _
      | exact abugidaref07_Equal.mono _ _ _
      | exact LeO.none _
      | refine LeO.ite ?_ ?_
      | refine LeO.bind ?_ (fun _ => ?_)
    · intro y0 y1 y2 y3 y4 y5 y6 y7
      unfold abugidalaw07_OrderPieces.l1
      repeat' first
      | (with_reducible exact ih0 _ _ _ _ _ _ _ _)
      | (with_reducible exact ih1 _ _ _ _ _ _)
      | (with_reducible exact ih2 _ _ _ _ _ _ _ _)
      | (with_reducible exact ih3 _ _ _ _ _)
      | (with_reducible exact ih4 _ _ _ _ _ _ _ _)
      | (with_reducible exact abugidalaw07_sanity.mono _)
      | (with_reducible exact abugidaref07_Equal.mono _ _ _)
      | (with_reducible exact LeO.refl _)
      | (with_reducible exact LeO.none _)
      | (with_reducible refine LeO.ite ?_ ?_)
      | (with_reducible refine LeO.bind ?_ (fun _ => ?_))
      | exact ih0 _ _ _ _ _ _ _ _
      | exact ih1 _ _ _ _ _ _
      | exact ih2 _ _ _ _ _ _ _ _
      | exact ih3 _ _ _ _ _
      | exact ih4 _ _ _ _ _ _ _ _
      | exact abugidalaw07_sanity.mono _
      | exact abugidaref07_Equal.mono _ _ _
      | exact LeO.none _
      | refine LeO.ite ?_ ?_
      | refine LeO.bind ?_ (fun _ => ?_)
    · intro y0 y1 y2 y3 y4
      unfold abugidalaw07_OrderPieces.l2
      repeat' first
      | (with_reducible exact ih0 _ _ _ _ _ _ _ _)
      | (with_reducible exact ih1 _ _ _ _ _ _)
      | (with_reducible exact ih2 _ _ _ _ _ _ _ _)
      | (with_reducible exact ih3 _ _ _ _ _)
      | (with_reducible exact ih4 _ _ _ _ _ _ _ _)
      | (with_reducible exact abugidalaw07_sanity.mono _)
      | (with_reducible exact abugidaref07_Equal.mono _ _ _)
      | (with_reducible exact LeO.refl _)
      | (with_reducible exact LeO.none _)
      | (with_reducible refine LeO.ite ?_ ?_)
      | (with_reducible refine LeO.bind ?_ (fun _ => ?_))
      | exact ih0 _ _ _ _ _ _ _ _
      | exact ih1 _ _ _ _ _ _
      | exact ih2 _ _ _ _ _ _ _ _
      | exact ih3 _ _ _ _ _
      | exact ih4 _ _ _ _ _ _ _ _
      | exact abugidalaw07_sanity.mono _
      | exact abugidaref07_Equal.mono _ _ _
      | exact LeO.none _
      | refine LeO.ite ?_ ?_
      | refine LeO.bind ?_ (fun _ => ?_)
    · intro y0 y1 y2 y3 y4 y5 y6 y7
      unfold abugidalaw07_OrderPieces.l3
      repeat' first
      | (with_reducible exact ih0 _ _ _ _ _ _ _ _)
      | (with_reducible exact ih1 _ _ _ _ _ _)
      | (with_reducible exact ih2 _ _ _ _ _ _ _ _)
      | (with_reducible exact ih3 _ _ _ _ _)
      | (with_reducible exact ih4 _ _ _ _ _ _ _ _)
      | (with_reducible exact abugidalaw07_sanity.mono _)
      | (with_reducible exact abugidaref07_Equal.mono _ _ _)
      | (with_reducible exact LeO.refl _)
      | (with_reducible exact LeO.none _)
      | (with_reducible refine LeO.ite ?_ ?_)
      | (with_reducible refine LeO.bind ?_ (fun _ => ?_))
      | exact ih0 _ _ _ _ _ _ _ _
      | exact ih1 _ _ _ _ _ _
      | exact ih2 _ _ _ _ _ _ _ _
      | exact ih3 _ _ _ _ _
      | exact ih4 _ _ _ _ _ _ _ _
      | exact abugidalaw07_sanity.mono _
      | exact abugidaref07_Equal.mono _ _ _
      | exact LeO.none _
      | refine LeO.ite ?_ ?_
      | refine LeO.bind ?_ (fun _ => ?_)
theorem abugidalaw07_OrderPieces.mono : ∀ a0 a1 k, LeO (abugidalaw07_OrderPieces.f k a0 a1) (abugidalaw07_OrderPieces.f (k + 1) a0 a1) := by
  intro a0 a1 k
  obtain ⟨ih0, ih1, ih2, ih3, ih4⟩ := abugidalaw07_OrderPieces.mono_l k
  unfold abugidalaw07_OrderPieces.f
  repeat' first
      | (with_reducible exact ih0 _ _ _ _ _ _ _ _)
      | (with_reducible exact ih1 _ _ _ _ _ _)
      | (with_reducible exact ih2 _ _ _ _ _ _ _ _)
      | (with_reducible exact ih3 _ _ _ _ _)
      | (with_reducible exact ih4 _ _ _ _ _ _ _ _)
      | (with_reducible exact abugidalaw07_sanity.mono _)
      | (with_reducible exact abugidaref07_Equal.mono _ _ _)
      | (with_reducible exact LeO.refl _)
      | (with_reducible exact LeO.none _)
      | (with_reducible refine LeO.ite ?_ ?_)
      | (with_reducible refine LeO.bind ?_ (fun _ => ?_))
      | exact ih0 _ _ _ _ _ _ _ _
      | exact ih1 _ _ _ _ _ _
      | exact ih2 _ _ _ _ _ _ _ _
      | exact ih3 _ _ _ _ _
      | exact ih4 _ _ _ _ _ _ _ _
      | exact abugidalaw07_sanity.mono _
      | exact abugidaref07_Equal.mono _ _ _
      | exact LeO.none _
      | refine LeO.ite ?_ ?_
      | refine LeO.bind ?_ (fun _ => ?_)
set_option maxHeartbeats 8000000 in
set_option maxRecDepth 100000 in
theorem abugidalaw07_OrderPieces.calls (k : Nat) (A0 : Option Addr) (c0 : Nat) (l0 : List Int) (a1 : Int) (r : Bool) (w : World) (hr0 : Kd.C (Kd.int .i64) w A0 l0.length l0) (hc0 : l0.length ≤ c0) (h : abugidalaw07_OrderPieces.f k l0 a1 = some r) :
    Calls Try.prog 7 #[.slice A0 l0.length c0, .int .u8 a1] w fun e w' => e = .returned (.bool r) ∧ Below w.heap.size w w' := by
  have HR0 := Aside0.mk hr0
  have HC0 := Aside0.mk hc0
  clear hr0 hc0
  have HB := Aside0.mk (Below.refl w.heap.size w)
  have H : ((abugidalaw07_sanity.f k).bind fun t452 => (if 0 ≤ (mn (l0.length : Int) 60) then (if (mn (l0.length : Int) 60) ≤ (l0.length : Int) then (abugidalaw07_OrderPieces.l0 k a1 t452 ([] : List Int) ([] : List Int) ([] : List Int) (l0.take ((mn (l0.length : Int) 60) : Int).toNat) ((l0.take ((mn (l0.length : Int) 60) : Int).toNat).length : Int) 0) else (none)) else (none))) = some r := h
  clear h
  replace H := Option.bind_eq_some_iff.mp H
  obtain ⟨t452, A30, H⟩ := H
  replace H : (if 0 ≤ (mn (l0.length : Int) 60) then (if (mn (l0.length : Int) 60) ≤ (l0.length : Int) then (abugidalaw07_OrderPieces.l0 k a1 t452 ([] : List Int) ([] : List Int) ([] : List Int) (l0.take ((mn (l0.length : Int) 60) : Int).toNat) ((l0.take ((mn (l0.length : Int) 60) : Int).toNat).length : Int) 0) else (none)) else (none)) = some r := H
  have A3 := Aside0.mk A30
  clear A30
  obtain ⟨ji4, hji4⟩ : ∃ j_ : Int, (mn (l0.length : Int) 60) = j_ := ⟨_, rfl⟩
  replace H : (if 0 ≤ (ji4) then (if (ji4) ≤ (l0.length : Int) then (abugidalaw07_OrderPieces.l0 k a1 t452 ([] : List Int) ([] : List Int) ([] : List Int) (l0.take ((ji4) : Int).toNat) ((l0.take ((ji4) : Int).toNat).length : Int) 0) else (none)) else (none)) = some r := by first | (rw [hji4] at H; exact H) | (simp only [hji4] at H ⊢; exact H)
  (try rw [hji4] at A3)
  (try (have hji4h : ji4 ≤ 60 := by (rw [← hji4]; unfold mn; (repeat' split) <;> omega)))
  (try (have hji4g : ji4 ≤ 64 := by omega))
  (try (have hji4l : 0 ≤ ji4 := by (rw [← hji4]; unfold mn; (repeat' split) <;> omega)))
  (try (have hji4m : 0 ≤ ji4 := by omega))
  have hji4_ : (if 60 < (l0.length : Int) then 60 else (l0.length : Int)) = ji4 := hji4
  by_cases c5 : 0 ≤ (ji4)
  · rw [if_pos c5] at H
    have c5b0 := eq_true c5
    have c5b1 : decide (0 ≤ (ji4)) = true := decide_eq_true c5
    clear c5
    by_cases c6 : (ji4) ≤ (l0.length : Int)
    · rw [if_pos c6] at H
      have c6b0 := eq_true c6
      have c6b1 : decide ((ji4) ≤ (l0.length : Int)) = true := decide_eq_true c6
      clear c6
      have H' := Aside0.mk H
      clear H
      go_enter Try.func7, Try.ntmps7
      go_wp2_with (first | (go_at_call 9; (with_reducible refine (abugidalaw07_sanity.calls k  t452 _ A3.out).mono ?_); rintro e w7 ⟨rfl, hb⟩; have n0_ := Aside0.mk (below_step (by repeat (first | (with_reducible first | exact HB.out | apply below_alloc | apply pw_below_drewN | apply below_drew1) | exact HB.out)) hb); clear HB; have HB := n0_; clear n0_; (try clear hb); (try clear hb2); (try clear hk); (try clear hi); obtain ⟨i08, hi08, _, hsz8, _⟩ := info_parts info3; obtain ⟨hcut8, hA8, hC8⟩ := print_take_of (P := Try.prog) (Value.int .i64) 0 26 3 .i64 Try.underlying26 hi08 hsz8 A0 c0 l0 (ji4) (of_decide_eq_true (by first | (with_reducible assumption) | assumption)) (of_decide_eq_true (by first | (with_reducible assumption) | assumption)) HC0.out; have HR453 := Aside0.mk (Kd.C_of_reads (h1 := fun _ => rfl) (hA8 _ (Kd.reads_of_C HR0.out))); have HC453 := Aside0.mk hC8; clear hA8 hC8 hi08 hsz8))
      repeat (go_quiet (first | (go_at_call 9; (with_reducible refine (abugidalaw07_sanity.calls k  t452 _ A3.out).mono ?_); rintro e w7 ⟨rfl, hb⟩; have n0_ := Aside0.mk (below_step (by repeat (first | (with_reducible first | exact HB.out | apply below_alloc | apply pw_below_drewN | apply below_drew1) | exact HB.out)) hb); clear HB; have HB := n0_; clear n0_; (try clear hb); (try clear hb2); (try clear hk); (try clear hi); obtain ⟨i08, hi08, _, hsz8, _⟩ := info_parts info3; obtain ⟨hcut8, hA8, hC8⟩ := print_take_of (P := Try.prog) (Value.int .i64) 0 26 3 .i64 Try.underlying26 hi08 hsz8 A0 c0 l0 (ji4) (of_decide_eq_true (by first | (with_reducible assumption) | assumption)) (of_decide_eq_true (by first | (with_reducible assumption) | assumption)) HC0.out; have HR453 := Aside0.mk (Kd.C_of_reads (h1 := fun _ => rfl) (hA8 _ (Kd.reads_of_C HR0.out))); have HC453 := Aside0.mk hC8; clear hA8 hC8 hi08 hsz8)); try go_wp2_with (first | (go_at_call 9; (with_reducible refine (abugidalaw07_sanity.calls k  t452 _ A3.out).mono ?_); rintro e w7 ⟨rfl, hb⟩; have n0_ := Aside0.mk (below_step (by repeat (first | (with_reducible first | exact HB.out | apply below_alloc | apply pw_below_drewN | apply below_drew1) | exact HB.out)) hb); clear HB; have HB := n0_; clear n0_; (try clear hb); (try clear hb2); (try clear hk); (try clear hi); obtain ⟨i08, hi08, _, hsz8, _⟩ := info_parts info3; obtain ⟨hcut8, hA8, hC8⟩ := print_take_of (P := Try.prog) (Value.int .i64) 0 26 3 .i64 Try.underlying26 hi08 hsz8 A0 c0 l0 (ji4) (of_decide_eq_true (by first | (with_reducible assumption) | assumption)) (of_decide_eq_true (by first | (with_reducible assumption) | assumption)) HC0.out; have HR453 := Aside0.mk (Kd.C_of_reads (h1 := fun _ => rfl) (hA8 _ (Kd.reads_of_C HR0.out))); have HC453 := Aside0.mk hC8; clear hA8 hC8 hi08 hsz8)))
      go_loopg [6, 7, 8, 27] k (fun kq v6 v7 v8 v27 w' => ∃ (x6_1 : List Int) (x7_1 : List Int) (x8_1 : List Int) (x27_1 : Int), v27 = .int .i64 x27_1 ∧ Aside0 (abugidalaw07_OrderPieces.l0 kq a1 t452 x6_1 x7_1 x8_1 (l0.take ((ji4) : Int).toNat) ((l0.take ((ji4) : Int).toNat).length : Int) x27_1 = some r) ∧ Aside0 (kq ≤ k) ∧ Aside0 (Kd.R (Kd.int .i64) 3 w' w.heap.size (fun k_ => some k_ ≠ (v7 : Value).ownBlock ∧ some k_ ≠ (v8 : Value).ownBlock) v6 x6_1) ∧ Aside0 (Kd.R (Kd.int .i64) 3 w' w.heap.size (fun k_ => some k_ ≠ (v6 : Value).ownBlock ∧ some k_ ≠ (v8 : Value).ownBlock) v7 x7_1) ∧ Aside0 (Kd.R (Kd.int .i64) 3 w' w.heap.size (fun k_ => some k_ ≠ (v6 : Value).ownBlock ∧ some k_ ≠ (v7 : Value).ownBlock) v8 x8_1) ∧ Aside0 (Below w.heap.size w w'))
      case atStart => exact ⟨(([] : List Int)), (([] : List Int)), (([] : List Int)), (0), (by first | rfl | (simp; done) | (simp [*]; done)), H', ⟨Nat.le_refl _⟩, ⟨by first | exact Kd.R_nil _ _ _ _ _ | exact Kd.N_nil _ _ _ _ _ | exact Kd.V_nil _ _ _ _ _ | exact Kd.Q_nil _ _ _ _ _ | exact Kd.S_nil _ _ _ _ _⟩, ⟨by first | exact Kd.R_nil _ _ _ _ _ | exact Kd.N_nil _ _ _ _ _ | exact Kd.V_nil _ _ _ _ _ | exact Kd.Q_nil _ _ _ _ _ | exact Kd.S_nil _ _ _ _ _⟩, ⟨by first | exact Kd.R_nil _ _ _ _ _ | exact Kd.N_nil _ _ _ _ _ | exact Kd.V_nil _ _ _ _ _ | exact Kd.Q_nil _ _ _ _ _ | exact Kd.S_nil _ _ _ _ _⟩, ⟨by repeat (first | (with_reducible first | exact HB.out | apply below_alloc | apply pw_below_drewN | apply below_drew1) | exact HB.out)⟩⟩
      case round =>
        clear H'
        try clear p2
        try clear c5
        try clear c5b0
        try clear c5b1
        try clear c6
        try clear c6b0
        try clear c6b1
        try clear c7
        obtain ⟨x6_1, x7_1, x8_1, x27_1, rfl, HA, HK1, HO_6, HO_7, HO_8, HB⟩ := hrel
        cases gk with
        | zero => exact absurd HA.out (by simp [abugidalaw07_OrderPieces.l0])
        | succ k1 =>
          have H := HA.out
          clear HA
          simp only [abugidalaw07_OrderPieces.l0] at H
          by_cases c9 : x27_1 < ((l0.take ((ji4) : Int).toNat).length : Int)
          · rw [if_pos c9] at H
            have c9b0 : decide (x27_1 < ((l0.take ((ji4) : Int).toNat).length : Int)) = true := decide_eq_true c9
            have c9b0m : decide (x27_1 < max ji4 0) = true := by
              have hq := hji4_
              have hq2 : ((l0.take ((ji4) : Int).toNat).length : Int) = max ji4 0 := by rw [List.length_take]; split at hq <;> omega
              rw [← hq2]; exact c9b0
            have c9b0t : (x27_1 < max ji4 0) = True := eq_true (of_decide_eq_true c9b0m)
            have c9b0u : (x27_1 < ji4) = True := eq_true (by have := of_decide_eq_true c9b0m; omega)
            clear c9
            by_cases c10 : 0 ≤ x27_1
            · rw [if_pos c10] at H
              have c10b0 : decide (0 ≤ x27_1) = true := decide_eq_true c10
              clear c10
              by_cases c11 : x27_1 < ((l0.take ((ji4) : Int).toNat).length : Int)
              · rw [if_pos c11] at H
                have c11b0 : decide (x27_1 < ((l0.take ((ji4) : Int).toNat).length : Int)) = true := decide_eq_true c11
                have c11b0m : decide (x27_1 < max ji4 0) = true := by
                  have hq := hji4_
                  have hq2 : ((l0.take ((ji4) : Int).toNat).length : Int) = max ji4 0 := by rw [List.length_take]; split at hq <;> omega
                  rw [← hq2]; exact c11b0
                have c11b0t : (x27_1 < max ji4 0) = True := eq_true (of_decide_eq_true c11b0m)
                have c11b0u : (x27_1 < ji4) = True := eq_true (by have := of_decide_eq_true c11b0m; omega)
                clear c11
                replace H := Option.bind_eq_some_iff.mp H
                obtain ⟨t455, A120, H⟩ := H
                replace H : (if x6_1.length < 17592186044416 then ((abugidaref01_Mod.f (rd (l0.take ((ji4) : Int).toNat) x27_1) 8).bind fun t459 => (if x7_1.length < 17592186044416 then ((abugidaref01_Mod.f (rd (l0.take ((ji4) : Int).toNat) x27_1) 8).bind fun t463 => (if x8_1.length < 17592186044416 then (abugidalaw07_OrderPieces.l0 k1 a1 t452 (x6_1 ++ [t455]) (x7_1 ++ [wrap64 (t459 + 1)]) (x8_1 ++ [wrap64 (t463 + 2)]) (l0.take ((ji4) : Int).toNat) ((l0.take ((ji4) : Int).toNat).length : Int) (wrap64 (x27_1 + 1))) else (none))) else (none))) else (none)) = some r := H
                have A12 := Aside0.mk A120
                clear A120
                by_cases c13 : x6_1.length < 17592186044416
                · rw [if_pos c13] at H
                  have LMc13 := Aside0.mk c13
                  clear c13
                  obtain ⟨y456, hy456⟩ : ∃ y_ : List Int, y_ = (x6_1 ++ [t455]) := ⟨_, rfl⟩
                  replace H : ((abugidaref01_Mod.f (rd (l0.take ((ji4) : Int).toNat) x27_1) 8).bind fun t459 => (if x7_1.length < 17592186044416 then ((abugidaref01_Mod.f (rd (l0.take ((ji4) : Int).toNat) x27_1) 8).bind fun t463 => (if x8_1.length < 17592186044416 then (abugidalaw07_OrderPieces.l0 k1 a1 t452 y456 (x7_1 ++ [wrap64 (t459 + 1)]) (x8_1 ++ [wrap64 (t463 + 2)]) (l0.take ((ji4) : Int).toNat) ((l0.take ((ji4) : Int).toNat).length : Int) (wrap64 (x27_1 + 1))) else (none))) else (none))) = some r := by first | (rw [hy456]; with_reducible exact H) | (have H2_ := (Option.bind_some _ _).symm.trans H; rw [hy456]; with_reducible exact H2_) | (have H2_ := (Option.bind_some _ _).symm.trans H; with_reducible exact H2_) | with_reducible exact H | (rw [hy456]; exact H) | exact H
                  have Ny456 := Aside0.mk hy456
                  clear hy456
                  replace H := Option.bind_eq_some_iff.mp H
                  obtain ⟨t459, A140, H⟩ := H
                  replace H : (if x7_1.length < 17592186044416 then ((abugidaref01_Mod.f (rd (l0.take ((ji4) : Int).toNat) x27_1) 8).bind fun t463 => (if x8_1.length < 17592186044416 then (abugidalaw07_OrderPieces.l0 k1 a1 t452 y456 (x7_1 ++ [wrap64 (t459 + 1)]) (x8_1 ++ [wrap64 (t463 + 2)]) (l0.take ((ji4) : Int).toNat) ((l0.take ((ji4) : Int).toNat).length : Int) (wrap64 (x27_1 + 1))) else (none))) else (none)) = some r := H
                  have A14 := Aside0.mk A140
                  clear A140
                  have EA14 : t455 = t459 := Option.some.inj (A12.out.symm.trans A14.out)
                  obtain rfl := EA14
                  by_cases c15 : x7_1.length < 17592186044416
                  · rw [if_pos c15] at H
                    have LMc15 := Aside0.mk c15
                    clear c15
                    obtain ⟨y460, hy460⟩ : ∃ y_ : List Int, y_ = (x7_1 ++ [wrap64 (t455 + 1)]) := ⟨_, rfl⟩
                    replace H : ((abugidaref01_Mod.f (rd (l0.take ((ji4) : Int).toNat) x27_1) 8).bind fun t463 => (if x8_1.length < 17592186044416 then (abugidalaw07_OrderPieces.l0 k1 a1 t452 y456 y460 (x8_1 ++ [wrap64 (t463 + 2)]) (l0.take ((ji4) : Int).toNat) ((l0.take ((ji4) : Int).toNat).length : Int) (wrap64 (x27_1 + 1))) else (none))) = some r := by first | (rw [hy460]; with_reducible exact H) | (have H2_ := (Option.bind_some _ _).symm.trans H; rw [hy460]; with_reducible exact H2_) | (have H2_ := (Option.bind_some _ _).symm.trans H; with_reducible exact H2_) | with_reducible exact H | (rw [hy460]; exact H) | exact H
                    have Ny460 := Aside0.mk hy460
                    clear hy460
                    replace H := Option.bind_eq_some_iff.mp H
                    obtain ⟨t463, A160, H⟩ := H
                    replace H : (if x8_1.length < 17592186044416 then (abugidalaw07_OrderPieces.l0 k1 a1 t452 y456 y460 (x8_1 ++ [wrap64 (t463 + 2)]) (l0.take ((ji4) : Int).toNat) ((l0.take ((ji4) : Int).toNat).length : Int) (wrap64 (x27_1 + 1))) else (none)) = some r := H
                    have A16 := Aside0.mk A160
                    clear A160
                    have EA16 : t455 = t463 := Option.some.inj (A14.out.symm.trans A16.out)
                    obtain rfl := EA16
                    by_cases c17 : x8_1.length < 17592186044416
                    · rw [if_pos c17] at H
                      have LMc17 := Aside0.mk c17
                      clear c17
                      obtain ⟨y464, hy464⟩ : ∃ y_ : List Int, y_ = (x8_1 ++ [wrap64 (t455 + 2)]) := ⟨_, rfl⟩
                      replace H : (abugidalaw07_OrderPieces.l0 k1 a1 t452 y456 y460 y464 (l0.take ((ji4) : Int).toNat) ((l0.take ((ji4) : Int).toNat).length : Int) (wrap64 (x27_1 + 1))) = some r := by first | (rw [hy464]; with_reducible exact H) | (have H2_ := (Option.bind_some _ _).symm.trans H; rw [hy464]; with_reducible exact H2_) | (have H2_ := (Option.bind_some _ _).symm.trans H; with_reducible exact H2_) | with_reducible exact H | (rw [hy464]; exact H) | exact H
                      have Ny464 := Aside0.mk hy464
                      clear hy464
                      have H' := Aside0.mk H
                      clear H
                      have p454 : 0 ≤ (x27_1 : Int) := of_decide_eq_true (by first | (with_reducible assumption) | assumption)
                      have q454 : x27_1 < ((l0.take ((ji4) : Int).toNat).length : Int) := of_decide_eq_true (by first | (with_reducible assumption) | assumption)
                      obtain ⟨ad454, e454, hx454_0⟩ := Kd.at_int HR453.out x27_1 p454 q454
                      cases e454
                      replace hx454_0 := (HB.out.cell (World.block_lt_of_cell? w _ hx454_0)).trans hx454_0
                      replace p454 := eq_true p454
                      replace q454 := eq_true q454
                      go_wp2_with (first | (go_at_call 23; (with_reducible refine (abugidaref01_Mod.calls (rd (l0.take ((ji4) : Int).toNat) x27_1) 8 t455 _ A12.out).mono ?_); rintro e w' ⟨rfl, ⟨nd, rfl⟩⟩; (try first | exact ⟨rfl, _, World.drewN_drewN _ _ _⟩ | exact ⟨rfl, _, Eq.trans (World.drewN_drewN _ _ _) (congrArg (World.drewN _) (Nat.add_assoc _ _ _))⟩)) | ((with_reducible refine gate_builtin (b := .append) (xs := #[.tmp 31, .tmp 34]) rfl ?_); (try (refine gate_guard (by rfl) ?_; dsimp only)); at_builtin; refine Kd.R_append (Kd.int .i64) (w0 := w) w.heap.size rfl (.tmp 31) (.tmp 34) 26 3 (.int .i64 0) 8 rfl Try.underlying26 info3 rfl (by decide) (by omega) u6 x6_1 t455 [.int .i64 t455] (fun k_ => some k_ ≠ (u7 : Value).ownBlock ∧ some k_ ≠ (u8 : Value).ownBlock) (fun _ => False) rfl rfl ?aP (fun _ hk => hk.elim) ?aF ?aO ?aB ?aS ?aL ?_; (case aP => exact rfl); (case aB => exact (by repeat (first | (with_reducible first | exact HB.out | apply below_alloc | apply pw_below_drewN | apply below_drew1) | exact HB.out))); (case aF => exact (fun k_ hk => ⟨Kd.fresh' (Kd.R_lt (by (with_reducible repeat (first | apply Kd.R_alloc | apply Kd.R_drewN | apply Kd.R_drew)); exact HO_7.out)) k_ hk, Kd.fresh' (Kd.R_lt (by (with_reducible repeat (first | apply Kd.R_alloc | apply Kd.R_drewN | apply Kd.R_drew)); exact HO_8.out)) k_ hk⟩)); (case aO => exact (by (with_reducible repeat (first | apply Kd.R_alloc | apply Kd.R_drewN | apply Kd.R_drew)); exact HO_6.out)); (case aS => exact (below_size (by repeat (first | (with_reducible first | exact HB.out | apply below_alloc | apply pw_below_drewN | apply below_drew1) | exact HB.out)))); (case aL => have := LMc13.out; omega); intro v457 w18 ho hb hg hat; rw [← Ny456.out] at ho; have n0_ := Aside0.mk (Kd.R_after (ok := (fun k_ => some k_ ≠ (u8 : Value).ownBlock)) (by (with_reducible repeat (first | apply Kd.R_alloc | apply Kd.R_drewN | apply Kd.R_drew)); exact Kd.R_mono HO_7.out (fun _ hk => ⟨hk.2, hk.1⟩)) hg hat); have n1_ := Aside0.mk (Kd.R_after (ok := (fun k_ => some k_ ≠ (u7 : Value).ownBlock)) (by (with_reducible repeat (first | apply Kd.R_alloc | apply Kd.R_drewN | apply Kd.R_drew)); exact Kd.R_mono HO_8.out (fun _ hk => ⟨hk.2, hk.1⟩)) hg hat); have n2_ := Aside0.mk (hb); have n3_ := Aside0.mk (ho); clear HO_7; clear HO_8; clear HB; clear HO_6; have HO_7 := n0_; have HO_8 := n1_; have HB := n2_; have HO458 := n3_; clear n0_ n1_ n2_ n3_; clear ho hb hg hat) | (go_at_call 23; (with_reducible refine (abugidaref01_Mod.calls (rd (l0.take ((ji4) : Int).toNat) x27_1) 8 t455 _ A14.out).mono ?_); rintro e w' ⟨rfl, ⟨nd, rfl⟩⟩; (try first | exact ⟨rfl, _, World.drewN_drewN _ _ _⟩ | exact ⟨rfl, _, Eq.trans (World.drewN_drewN _ _ _) (congrArg (World.drewN _) (Nat.add_assoc _ _ _))⟩)) | ((with_reducible refine gate_builtin (b := .append) (xs := #[.tmp 36, .tmp 40]) rfl ?_); (try (refine gate_guard (by rfl) ?_; dsimp only)); at_builtin; refine Kd.R_append (Kd.int .i64) (w0 := w) w.heap.size rfl (.tmp 36) (.tmp 40) 26 3 (.int .i64 0) 8 rfl Try.underlying26 info3 rfl (by decide) (by omega) u7 x7_1 (wrap64 (t455 + 1)) [.int .i64 (wrap64 (t455 + 1))] (fun k_ => some k_ ≠ (u8 : Value).ownBlock ∧ some k_ ≠ (v457 : Value).ownBlock) (fun _ => False) rfl rfl ?aP (fun _ hk => hk.elim) ?aF ?aO ?aB ?aS ?aL ?_; (case aP => exact rfl); (case aB => exact (by repeat (first | (with_reducible first | exact HB.out | apply below_alloc | apply pw_below_drewN | apply below_drew1) | exact HB.out))); (case aF => exact (fun k_ hk => ⟨Kd.fresh' (Kd.R_lt (by (with_reducible repeat (first | apply Kd.R_alloc | apply Kd.R_drewN | apply Kd.R_drew)); exact HO_8.out)) k_ hk, Kd.fresh' (Kd.R_lt (by (with_reducible repeat (first | apply Kd.R_alloc | apply Kd.R_drewN | apply Kd.R_drew)); exact HO458.out)) k_ hk⟩)); (case aO => exact (by (with_reducible repeat (first | apply Kd.R_alloc | apply Kd.R_drewN | apply Kd.R_drew)); exact HO_7.out)); (case aS => exact (below_size (by repeat (first | (with_reducible first | exact HB.out | apply below_alloc | apply pw_below_drewN | apply below_drew1) | exact HB.out)))); (case aL => have := LMc15.out; omega); intro v461 w19 ho hb hg hat; rw [← Ny460.out] at ho; have n0_ := Aside0.mk (Kd.R_after (ok := (fun k_ => some k_ ≠ (v457 : Value).ownBlock)) (by (with_reducible repeat (first | apply Kd.R_alloc | apply Kd.R_drewN | apply Kd.R_drew)); exact Kd.R_mono HO_8.out (fun _ hk => ⟨hk.2, hk.1⟩)) hg hat); have n1_ := Aside0.mk (Kd.R_after (ok := (fun k_ => some k_ ≠ (u8 : Value).ownBlock)) (by (with_reducible repeat (first | apply Kd.R_alloc | apply Kd.R_drewN | apply Kd.R_drew)); exact Kd.R_mono HO458.out (fun _ hk => ⟨hk.2, hk.1⟩)) hg hat); have n2_ := Aside0.mk (hb); have n3_ := Aside0.mk (ho); clear HO_8; clear HO458; clear HB; clear HO_7; have HO_8 := n0_; have HO458 := n1_; have HB := n2_; have HO462 := n3_; clear n0_ n1_ n2_ n3_; clear ho hb hg hat) | (go_at_call 23; (with_reducible refine (abugidaref01_Mod.calls (rd (l0.take ((ji4) : Int).toNat) x27_1) 8 t455 _ A16.out).mono ?_); rintro e w' ⟨rfl, ⟨nd, rfl⟩⟩; (try first | exact ⟨rfl, _, World.drewN_drewN _ _ _⟩ | exact ⟨rfl, _, Eq.trans (World.drewN_drewN _ _ _) (congrArg (World.drewN _) (Nat.add_assoc _ _ _))⟩)) | ((with_reducible refine gate_builtin (b := .append) (xs := #[.tmp 42, .tmp 46]) rfl ?_); (try (refine gate_guard (by rfl) ?_; dsimp only)); at_builtin; refine Kd.R_append (Kd.int .i64) (w0 := w) w.heap.size rfl (.tmp 42) (.tmp 46) 26 3 (.int .i64 0) 8 rfl Try.underlying26 info3 rfl (by decide) (by omega) u8 x8_1 (wrap64 (t455 + 2)) [.int .i64 (wrap64 (t455 + 2))] (fun k_ => some k_ ≠ (v457 : Value).ownBlock ∧ some k_ ≠ (v461 : Value).ownBlock) (fun _ => False) rfl rfl ?aP (fun _ hk => hk.elim) ?aF ?aO ?aB ?aS ?aL ?_; (case aP => exact rfl); (case aB => exact (by repeat (first | (with_reducible first | exact HB.out | apply below_alloc | apply pw_below_drewN | apply below_drew1) | exact HB.out))); (case aF => exact (fun k_ hk => ⟨Kd.fresh' (Kd.R_lt (by (with_reducible repeat (first | apply Kd.R_alloc | apply Kd.R_drewN | apply Kd.R_drew)); exact HO458.out)) k_ hk, Kd.fresh' (Kd.R_lt (by (with_reducible repeat (first | apply Kd.R_alloc | apply Kd.R_drewN | apply Kd.R_drew)); exact HO462.out)) k_ hk⟩)); (case aO => exact (by (with_reducible repeat (first | apply Kd.R_alloc | apply Kd.R_drewN | apply Kd.R_drew)); exact HO_8.out)); (case aS => exact (below_size (by repeat (first | (with_reducible first | exact HB.out | apply below_alloc | apply pw_below_drewN | apply below_drew1) | exact HB.out)))); (case aL => have := LMc17.out; omega); intro v465 w20 ho hb hg hat; rw [← Ny464.out] at ho; have n0_ := Aside0.mk (Kd.R_after (ok := (fun k_ => some k_ ≠ (v461 : Value).ownBlock)) (by (with_reducible repeat (first | apply Kd.R_alloc | apply Kd.R_drewN | apply Kd.R_drew)); exact Kd.R_mono HO458.out (fun _ hk => ⟨hk.2, hk.1⟩)) hg hat); have n1_ := Aside0.mk (Kd.R_after (ok := (fun k_ => some k_ ≠ (v457 : Value).ownBlock)) (by (with_reducible repeat (first | apply Kd.R_alloc | apply Kd.R_drewN | apply Kd.R_drew)); exact Kd.R_mono HO462.out (fun _ hk => ⟨hk.2, hk.1⟩)) hg hat); have n2_ := Aside0.mk (hb); have n3_ := Aside0.mk (ho); clear HO458; clear HO462; clear HB; clear HO_8; have HO458 := n0_; have HO462 := n1_; have HB := n2_; have HO466 := n3_; clear n0_ n1_ n2_ n3_; clear ho hb hg hat))
                      repeat (go_quiet (first | (go_at_call 23; (with_reducible refine (abugidaref01_Mod.calls (rd (l0.take ((ji4) : Int).toNat) x27_1) 8 t455 _ A12.out).mono ?_); rintro e w' ⟨rfl, ⟨nd, rfl⟩⟩; (try first | exact ⟨rfl, _, World.drewN_drewN _ _ _⟩ | exact ⟨rfl, _, Eq.trans (World.drewN_drewN _ _ _) (congrArg (World.drewN _) (Nat.add_assoc _ _ _))⟩)) | ((with_reducible refine gate_builtin (b := .append) (xs := #[.tmp 31, .tmp 34]) rfl ?_); (try (refine gate_guard (by rfl) ?_; dsimp only)); at_builtin; refine Kd.R_append (Kd.int .i64) (w0 := w) w.heap.size rfl (.tmp 31) (.tmp 34) 26 3 (.int .i64 0) 8 rfl Try.underlying26 info3 rfl (by decide) (by omega) u6 x6_1 t455 [.int .i64 t455] (fun k_ => some k_ ≠ (u7 : Value).ownBlock ∧ some k_ ≠ (u8 : Value).ownBlock) (fun _ => False) rfl rfl ?aP (fun _ hk => hk.elim) ?aF ?aO ?aB ?aS ?aL ?_; (case aP => exact rfl); (case aB => exact (by repeat (first | (with_reducible first | exact HB.out | apply below_alloc | apply pw_below_drewN | apply below_drew1) | exact HB.out))); (case aF => exact (fun k_ hk => ⟨Kd.fresh' (Kd.R_lt (by (with_reducible repeat (first | apply Kd.R_alloc | apply Kd.R_drewN | apply Kd.R_drew)); exact HO_7.out)) k_ hk, Kd.fresh' (Kd.R_lt (by (with_reducible repeat (first | apply Kd.R_alloc | apply Kd.R_drewN | apply Kd.R_drew)); exact HO_8.out)) k_ hk⟩)); (case aO => exact (by (with_reducible repeat (first | apply Kd.R_alloc | apply Kd.R_drewN | apply Kd.R_drew)); exact HO_6.out)); (case aS => exact (below_size (by repeat (first | (with_reducible first | exact HB.out | apply below_alloc | apply pw_below_drewN | apply below_drew1) | exact HB.out)))); (case aL => have := LMc13.out; omega); intro v457 w18 ho hb hg hat; rw [← Ny456.out] at ho; have n0_ := Aside0.mk (Kd.R_after (ok := (fun k_ => some k_ ≠ (u8 : Value).ownBlock)) (by (with_reducible repeat (first | apply Kd.R_alloc | apply Kd.R_drewN | apply Kd.R_drew)); exact Kd.R_mono HO_7.out (fun _ hk => ⟨hk.2, hk.1⟩)) hg hat); have n1_ := Aside0.mk (Kd.R_after (ok := (fun k_ => some k_ ≠ (u7 : Value).ownBlock)) (by (with_reducible repeat (first | apply Kd.R_alloc | apply Kd.R_drewN | apply Kd.R_drew)); exact Kd.R_mono HO_8.out (fun _ hk => ⟨hk.2, hk.1⟩)) hg hat); have n2_ := Aside0.mk (hb); have n3_ := Aside0.mk (ho); clear HO_7; clear HO_8; clear HB; clear HO_6; have HO_7 := n0_; have HO_8 := n1_; have HB := n2_; have HO458 := n3_; clear n0_ n1_ n2_ n3_; clear ho hb hg hat) | (go_at_call 23; (with_reducible refine (abugidaref01_Mod.calls (rd (l0.take ((ji4) : Int).toNat) x27_1) 8 t455 _ A14.out).mono ?_); rintro e w' ⟨rfl, ⟨nd, rfl⟩⟩; (try first | exact ⟨rfl, _, World.drewN_drewN _ _ _⟩ | exact ⟨rfl, _, Eq.trans (World.drewN_drewN _ _ _) (congrArg (World.drewN _) (Nat.add_assoc _ _ _))⟩)) | ((with_reducible refine gate_builtin (b := .append) (xs := #[.tmp 36, .tmp 40]) rfl ?_); (try (refine gate_guard (by rfl) ?_; dsimp only)); at_builtin; refine Kd.R_append (Kd.int .i64) (w0 := w) w.heap.size rfl (.tmp 36) (.tmp 40) 26 3 (.int .i64 0) 8 rfl Try.underlying26 info3 rfl (by decide) (by omega) u7 x7_1 (wrap64 (t455 + 1)) [.int .i64 (wrap64 (t455 + 1))] (fun k_ => some k_ ≠ (u8 : Value).ownBlock ∧ some k_ ≠ (v457 : Value).ownBlock) (fun _ => False) rfl rfl ?aP (fun _ hk => hk.elim) ?aF ?aO ?aB ?aS ?aL ?_; (case aP => exact rfl); (case aB => exact (by repeat (first | (with_reducible first | exact HB.out | apply below_alloc | apply pw_below_drewN | apply below_drew1) | exact HB.out))); (case aF => exact (fun k_ hk => ⟨Kd.fresh' (Kd.R_lt (by (with_reducible repeat (first | apply Kd.R_alloc | apply Kd.R_drewN | apply Kd.R_drew)); exact HO_8.out)) k_ hk, Kd.fresh' (Kd.R_lt (by (with_reducible repeat (first | apply Kd.R_alloc | apply Kd.R_drewN | apply Kd.R_drew)); exact HO458.out)) k_ hk⟩)); (case aO => exact (by (with_reducible repeat (first | apply Kd.R_alloc | apply Kd.R_drewN | apply Kd.R_drew)); exact HO_7.out)); (case aS => exact (below_size (by repeat (first | (with_reducible first | exact HB.out | apply below_alloc | apply pw_below_drewN | apply below_drew1) | exact HB.out)))); (case aL => have := LMc15.out; omega); intro v461 w19 ho hb hg hat; rw [← Ny460.out] at ho; have n0_ := Aside0.mk (Kd.R_after (ok := (fun k_ => some k_ ≠ (v457 : Value).ownBlock)) (by (with_reducible repeat (first | apply Kd.R_alloc | apply Kd.R_drewN | apply Kd.R_drew)); exact Kd.R_mono HO_8.out (fun _ hk => ⟨hk.2, hk.1⟩)) hg hat); have n1_ := Aside0.mk (Kd.R_after (ok := (fun k_ => some k_ ≠ (u8 : Value).ownBlock)) (by (with_reducible repeat (first | apply Kd.R_alloc | apply Kd.R_drewN | apply Kd.R_drew)); exact Kd.R_mono HO458.out (fun _ hk => ⟨hk.2, hk.1⟩)) hg hat); have n2_ := Aside0.mk (hb); have n3_ := Aside0.mk (ho); clear HO_8; clear HO458; clear HB; clear HO_7; have HO_8 := n0_; have HO458 := n1_; have HB := n2_; have HO462 := n3_; clear n0_ n1_ n2_ n3_; clear ho hb hg hat) | (go_at_call 23; (with_reducible refine (abugidaref01_Mod.calls (rd (l0.take ((ji4) : Int).toNat) x27_1) 8 t455 _ A16.out).mono ?_); rintro e w' ⟨rfl, ⟨nd, rfl⟩⟩; (try first | exact ⟨rfl, _, World.drewN_drewN _ _ _⟩ | exact ⟨rfl, _, Eq.trans (World.drewN_drewN _ _ _) (congrArg (World.drewN _) (Nat.add_assoc _ _ _))⟩)) | ((with_reducible refine gate_builtin (b := .append) (xs := #[.tmp 42, .tmp 46]) rfl ?_); (try (refine gate_guard (by rfl) ?_; dsimp only)); at_builtin; refine Kd.R_append (Kd.int .i64) (w0 := w) w.heap.size rfl (.tmp 42) (.tmp 46) 26 3 (.int .i64 0) 8 rfl Try.underlying26 info3 rfl (by decide) (by omega) u8 x8_1 (wrap64 (t455 + 2)) [.int .i64 (wrap64 (t455 + 2))] (fun k_ => some k_ ≠ (v457 : Value).ownBlock ∧ some k_ ≠ (v461 : Value).ownBlock) (fun _ => False) rfl rfl ?aP (fun _ hk => hk.elim) ?aF ?aO ?aB ?aS ?aL ?_; (case aP => exact rfl); (case aB => exact (by repeat (first | (with_reducible first | exact HB.out | apply below_alloc | apply pw_below_drewN | apply below_drew1) | exact HB.out))); (case aF => exact (fun k_ hk => ⟨Kd.fresh' (Kd.R_lt (by (with_reducible repeat (first | apply Kd.R_alloc | apply Kd.R_drewN | apply Kd.R_drew)); exact HO458.out)) k_ hk, Kd.fresh' (Kd.R_lt (by (with_reducible repeat (first | apply Kd.R_alloc | apply Kd.R_drewN | apply Kd.R_drew)); exact HO462.out)) k_ hk⟩)); (case aO => exact (by (with_reducible repeat (first | apply Kd.R_alloc | apply Kd.R_drewN | apply Kd.R_drew)); exact HO_8.out)); (case aS => exact (below_size (by repeat (first | (with_reducible first | exact HB.out | apply below_alloc | apply pw_below_drewN | apply below_drew1) | exact HB.out)))); (case aL => have := LMc17.out; omega); intro v465 w20 ho hb hg hat; rw [← Ny464.out] at ho; have n0_ := Aside0.mk (Kd.R_after (ok := (fun k_ => some k_ ≠ (v461 : Value).ownBlock)) (by (with_reducible repeat (first | apply Kd.R_alloc | apply Kd.R_drewN | apply Kd.R_drew)); exact Kd.R_mono HO458.out (fun _ hk => ⟨hk.2, hk.1⟩)) hg hat); have n1_ := Aside0.mk (Kd.R_after (ok := (fun k_ => some k_ ≠ (v457 : Value).ownBlock)) (by (with_reducible repeat (first | apply Kd.R_alloc | apply Kd.R_drewN | apply Kd.R_drew)); exact Kd.R_mono HO462.out (fun _ hk => ⟨hk.2, hk.1⟩)) hg hat); have n2_ := Aside0.mk (hb); have n3_ := Aside0.mk (ho); clear HO458; clear HO462; clear HB; clear HO_8; have HO458 := n0_; have HO462 := n1_; have HB := n2_; have HO466 := n3_; clear n0_ n1_ n2_ n3_; clear ho hb hg hat)); try go_wp2_with (first | (go_at_call 23; (with_reducible refine (abugidaref01_Mod.calls (rd (l0.take ((ji4) : Int).toNat) x27_1) 8 t455 _ A12.out).mono ?_); rintro e w' ⟨rfl, ⟨nd, rfl⟩⟩; (try first | exact ⟨rfl, _, World.drewN_drewN _ _ _⟩ | exact ⟨rfl, _, Eq.trans (World.drewN_drewN _ _ _) (congrArg (World.drewN _) (Nat.add_assoc _ _ _))⟩)) | ((with_reducible refine gate_builtin (b := .append) (xs := #[.tmp 31, .tmp 34]) rfl ?_); (try (refine gate_guard (by rfl) ?_; dsimp only)); at_builtin; refine Kd.R_append (Kd.int .i64) (w0 := w) w.heap.size rfl (.tmp 31) (.tmp 34) 26 3 (.int .i64 0) 8 rfl Try.underlying26 info3 rfl (by decide) (by omega) u6 x6_1 t455 [.int .i64 t455] (fun k_ => some k_ ≠ (u7 : Value).ownBlock ∧ some k_ ≠ (u8 : Value).ownBlock) (fun _ => False) rfl rfl ?aP (fun _ hk => hk.elim) ?aF ?aO ?aB ?aS ?aL ?_; (case aP => exact rfl); (case aB => exact (by repeat (first | (with_reducible first | exact HB.out | apply below_alloc | apply pw_below_drewN | apply below_drew1) | exact HB.out))); (case aF => exact (fun k_ hk => ⟨Kd.fresh' (Kd.R_lt (by (with_reducible repeat (first | apply Kd.R_alloc | apply Kd.R_drewN | apply Kd.R_drew)); exact HO_7.out)) k_ hk, Kd.fresh' (Kd.R_lt (by (with_reducible repeat (first | apply Kd.R_alloc | apply Kd.R_drewN | apply Kd.R_drew)); exact HO_8.out)) k_ hk⟩)); (case aO => exact (by (with_reducible repeat (first | apply Kd.R_alloc | apply Kd.R_drewN | apply Kd.R_drew)); exact HO_6.out)); (case aS => exact (below_size (by repeat (first | (with_reducible first | exact HB.out | apply below_alloc | apply pw_below_drewN | apply below_drew1) | exact HB.out)))); (case aL => have := LMc13.out; omega); intro v457 w18 ho hb hg hat; rw [← Ny456.out] at ho; have n0_ := Aside0.mk (Kd.R_after (ok := (fun k_ => some k_ ≠ (u8 : Value).ownBlock)) (by (with_reducible repeat (first | apply Kd.R_alloc | apply Kd.R_drewN | apply Kd.R_drew)); exact Kd.R_mono HO_7.out (fun _ hk => ⟨hk.2, hk.1⟩)) hg hat); have n1_ := Aside0.mk (Kd.R_after (ok := (fun k_ => some k_ ≠ (u7 : Value).ownBlock)) (by (with_reducible repeat (first | apply Kd.R_alloc | apply Kd.R_drewN | apply Kd.R_drew)); exact Kd.R_mono HO_8.out (fun _ hk => ⟨hk.2, hk.1⟩)) hg hat); have n2_ := Aside0.mk (hb); have n3_ := Aside0.mk (ho); clear HO_7; clear HO_8; clear HB; clear HO_6; have HO_7 := n0_; have HO_8 := n1_; have HB := n2_; have HO458 := n3_; clear n0_ n1_ n2_ n3_; clear ho hb hg hat) | (go_at_call 23; (with_reducible refine (abugidaref01_Mod.calls (rd (l0.take ((ji4) : Int).toNat) x27_1) 8 t455 _ A14.out).mono ?_); rintro e w' ⟨rfl, ⟨nd, rfl⟩⟩; (try first | exact ⟨rfl, _, World.drewN_drewN _ _ _⟩ | exact ⟨rfl, _, Eq.trans (World.drewN_drewN _ _ _) (congrArg (World.drewN _) (Nat.add_assoc _ _ _))⟩)) | ((with_reducible refine gate_builtin (b := .append) (xs := #[.tmp 36, .tmp 40]) rfl ?_); (try (refine gate_guard (by rfl) ?_; dsimp only)); at_builtin; refine Kd.R_append (Kd.int .i64) (w0 := w) w.heap.size rfl (.tmp 36) (.tmp 40) 26 3 (.int .i64 0) 8 rfl Try.underlying26 info3 rfl (by decide) (by omega) u7 x7_1 (wrap64 (t455 + 1)) [.int .i64 (wrap64 (t455 + 1))] (fun k_ => some k_ ≠ (u8 : Value).ownBlock ∧ some k_ ≠ (v457 : Value).ownBlock) (fun _ => False) rfl rfl ?aP (fun _ hk => hk.elim) ?aF ?aO ?aB ?aS ?aL ?_; (case aP => exact rfl); (case aB => exact (by repeat (first | (with_reducible first | exact HB.out | apply below_alloc | apply pw_below_drewN | apply below_drew1) | exact HB.out))); (case aF => exact (fun k_ hk => ⟨Kd.fresh' (Kd.R_lt (by (with_reducible repeat (first | apply Kd.R_alloc | apply Kd.R_drewN | apply Kd.R_drew)); exact HO_8.out)) k_ hk, Kd.fresh' (Kd.R_lt (by (with_reducible repeat (first | apply Kd.R_alloc | apply Kd.R_drewN | apply Kd.R_drew)); exact HO458.out)) k_ hk⟩)); (case aO => exact (by (with_reducible repeat (first | apply Kd.R_alloc | apply Kd.R_drewN | apply Kd.R_drew)); exact HO_7.out)); (case aS => exact (below_size (by repeat (first | (with_reducible first | exact HB.out | apply below_alloc | apply pw_below_drewN | apply below_drew1) | exact HB.out)))); (case aL => have := LMc15.out; omega); intro v461 w19 ho hb hg hat; rw [← Ny460.out] at ho; have n0_ := Aside0.mk (Kd.R_after (ok := (fun k_ => some k_ ≠ (v457 : Value).ownBlock)) (by (with_reducible repeat (first | apply Kd.R_alloc | apply Kd.R_drewN | apply Kd.R_drew)); exact Kd.R_mono HO_8.out (fun _ hk => ⟨hk.2, hk.1⟩)) hg hat); have n1_ := Aside0.mk (Kd.R_after (ok := (fun k_ => some k_ ≠ (u8 : Value).ownBlock)) (by (with_reducible repeat (first | apply Kd.R_alloc | apply Kd.R_drewN | apply Kd.R_drew)); exact Kd.R_mono HO458.out (fun _ hk => ⟨hk.2, hk.1⟩)) hg hat); have n2_ := Aside0.mk (hb); have n3_ := Aside0.mk (ho); clear HO_8; clear HO458; clear HB; clear HO_7; have HO_8 := n0_; have HO458 := n1_; have HB := n2_; have HO462 := n3_; clear n0_ n1_ n2_ n3_; clear ho hb hg hat) | (go_at_call 23; (with_reducible refine (abugidaref01_Mod.calls (rd (l0.take ((ji4) : Int).toNat) x27_1) 8 t455 _ A16.out).mono ?_); rintro e w' ⟨rfl, ⟨nd, rfl⟩⟩; (try first | exact ⟨rfl, _, World.drewN_drewN _ _ _⟩ | exact ⟨rfl, _, Eq.trans (World.drewN_drewN _ _ _) (congrArg (World.drewN _) (Nat.add_assoc _ _ _))⟩)) | ((with_reducible refine gate_builtin (b := .append) (xs := #[.tmp 42, .tmp 46]) rfl ?_); (try (refine gate_guard (by rfl) ?_; dsimp only)); at_builtin; refine Kd.R_append (Kd.int .i64) (w0 := w) w.heap.size rfl (.tmp 42) (.tmp 46) 26 3 (.int .i64 0) 8 rfl Try.underlying26 info3 rfl (by decide) (by omega) u8 x8_1 (wrap64 (t455 + 2)) [.int .i64 (wrap64 (t455 + 2))] (fun k_ => some k_ ≠ (v457 : Value).ownBlock ∧ some k_ ≠ (v461 : Value).ownBlock) (fun _ => False) rfl rfl ?aP (fun _ hk => hk.elim) ?aF ?aO ?aB ?aS ?aL ?_; (case aP => exact rfl); (case aB => exact (by repeat (first | (with_reducible first | exact HB.out | apply below_alloc | apply pw_below_drewN | apply below_drew1) | exact HB.out))); (case aF => exact (fun k_ hk => ⟨Kd.fresh' (Kd.R_lt (by (with_reducible repeat (first | apply Kd.R_alloc | apply Kd.R_drewN | apply Kd.R_drew)); exact HO458.out)) k_ hk, Kd.fresh' (Kd.R_lt (by (with_reducible repeat (first | apply Kd.R_alloc | apply Kd.R_drewN | apply Kd.R_drew)); exact HO462.out)) k_ hk⟩)); (case aO => exact (by (with_reducible repeat (first | apply Kd.R_alloc | apply Kd.R_drewN | apply Kd.R_drew)); exact HO_8.out)); (case aS => exact (below_size (by repeat (first | (with_reducible first | exact HB.out | apply below_alloc | apply pw_below_drewN | apply below_drew1) | exact HB.out)))); (case aL => have := LMc17.out; omega); intro v465 w20 ho hb hg hat; rw [← Ny464.out] at ho; have n0_ := Aside0.mk (Kd.R_after (ok := (fun k_ => some k_ ≠ (v461 : Value).ownBlock)) (by (with_reducible repeat (first | apply Kd.R_alloc | apply Kd.R_drewN | apply Kd.R_drew)); exact Kd.R_mono HO458.out (fun _ hk => ⟨hk.2, hk.1⟩)) hg hat); have n1_ := Aside0.mk (Kd.R_after (ok := (fun k_ => some k_ ≠ (v457 : Value).ownBlock)) (by (with_reducible repeat (first | apply Kd.R_alloc | apply Kd.R_drewN | apply Kd.R_drew)); exact Kd.R_mono HO462.out (fun _ hk => ⟨hk.2, hk.1⟩)) hg hat); have n2_ := Aside0.mk (hb); have n3_ := Aside0.mk (ho); clear HO458; clear HO462; clear HB; clear HO_8; have HO458 := n0_; have HO462 := n1_; have HB := n2_; have HO466 := n3_; clear n0_ n1_ n2_ n3_; clear ho hb hg hat)))
                      go_roundg k1
                      case measure => have := HK1.out; omega
                      case rel => exact ⟨(y456), (y460), (y464), (wrap64 (x27_1 + 1)), (by first | rfl | (simp; done) | (simp [*]; done)), H', ⟨by have := HK1.out; omega⟩, ⟨by (with_reducible repeat (first | apply Kd.R_alloc | apply Kd.R_drewN | apply Kd.R_drew)); exact HO458.out⟩, ⟨by (with_reducible repeat (first | apply Kd.R_alloc | apply Kd.R_drewN | apply Kd.R_drew)); exact HO462.out⟩, ⟨by (with_reducible repeat (first | apply Kd.R_alloc | apply Kd.R_drewN | apply Kd.R_drew)); exact HO466.out⟩, ⟨by repeat (first | (with_reducible first | exact HB.out | apply below_alloc | apply pw_below_drewN | apply below_drew1) | exact HB.out)⟩⟩
                    · rw [if_neg c17] at H
                      exact absurd H (by simp)
                  · rw [if_neg c15] at H
                    exact absurd H (by simp)
                · rw [if_neg c13] at H
                  exact absurd H (by simp)
              · rw [if_neg c11] at H
                exact absurd H (by simp)
            · rw [if_neg c10] at H
              exact absurd H (by simp)
          · rw [if_neg c9] at H
            have c9b0 : decide (x27_1 < ((l0.take ((ji4) : Int).toNat).length : Int)) = false := decide_eq_false c9
            have c9b0m : decide (x27_1 < max ji4 0) = false := by
              have hq := hji4_
              have hq2 : ((l0.take ((ji4) : Int).toNat).length : Int) = max ji4 0 := by rw [List.length_take]; split at hq <;> omega
              rw [← hq2]; exact c9b0
            clear c9
            replace H := Option.bind_eq_some_iff.mp H
            obtain ⟨t467, A210, H⟩ := H
            replace H : ((order_Visual.f x7_1).bind fun t470 => (if (t467.length : Int) = (x6_1.length : Int) then (if (t470.length : Int) = (x6_1.length : Int) then ((order_Visual.f x8_1).bind fun t473 => ((abugidaref07_Equal.f k1 t473 t467).bind fun t476 => (abugidalaw07_OrderPieces.j1 k1 a1 t452 x6_1 t467 t470 (!t476)))) else (abugidalaw07_OrderPieces.j1 k1 a1 t452 x6_1 t467 t470 true)) else (abugidalaw07_OrderPieces.j1 k1 a1 t452 x6_1 t467 t470 true))) = some r := H
            have A21 := Aside0.mk A210
            clear A210
            replace H := Option.bind_eq_some_iff.mp H
            obtain ⟨t470, A220, H⟩ := H
            replace H : (if (t467.length : Int) = (x6_1.length : Int) then (if (t470.length : Int) = (x6_1.length : Int) then ((order_Visual.f x8_1).bind fun t473 => ((abugidaref07_Equal.f k1 t473 t467).bind fun t476 => (abugidalaw07_OrderPieces.j1 k1 a1 t452 x6_1 t467 t470 (!t476)))) else (abugidalaw07_OrderPieces.j1 k1 a1 t452 x6_1 t467 t470 true)) else (abugidalaw07_OrderPieces.j1 k1 a1 t452 x6_1 t467 t470 true)) = some r := H
            have A22 := Aside0.mk A220
            clear A220
            have HC23 := Aside0.mk H
            clear H
            obtain ⟨Ao24, co24, eo24⟩ := Kd.R_slice HO_6.out
            subst eo24
            go_upto_region 11 with (first | (go_at_call 24; (with_reducible refine (order_Visual.calls _ _ x6_1 t467 _ ?side1 ?side2 A21.out).mono ?_); (case side1 => repeat (first | exact (Kd.R_reads' HO_6.out).2.2 | (with_reducible refine Kd.C_alloc ?_ _) | (with_reducible refine Kd.C_drewN ?_ _) | (with_reducible refine Kd.C_drew ?_))); (case side2 => exact (Kd.R_reads' HO_6.out).2.1); rintro e w25 ⟨v468, rfl, ho0, hb⟩; have n0_ := Aside0.mk (Kd.R_elder' (by (with_reducible repeat (first | apply Kd.R_alloc | apply Kd.R_drewN | apply Kd.R_drew)); exact HO_6.out) (Kd.R_base ho0) hb); have n1_ := Aside0.mk (Kd.R_elder' (by (with_reducible repeat (first | apply Kd.R_alloc | apply Kd.R_drewN | apply Kd.R_drew)); exact HO_7.out) (Kd.R_base ho0) hb); have n2_ := Aside0.mk (Kd.R_elder' (by (with_reducible repeat (first | apply Kd.R_alloc | apply Kd.R_drewN | apply Kd.R_drew)); exact HO_8.out) (Kd.R_base ho0) hb); have n3_ := Aside0.mk (Kd.R_lower (Kd.R_new' (Kd.R_new' (Kd.R_new' ho0 (Kd.R_lt (by (with_reducible repeat (first | apply Kd.R_alloc | apply Kd.R_drewN | apply Kd.R_drew)); exact HO_6.out))) (Kd.R_lt (by (with_reducible repeat (first | apply Kd.R_alloc | apply Kd.R_drewN | apply Kd.R_drew)); exact HO_7.out))) (Kd.R_lt (by (with_reducible repeat (first | apply Kd.R_alloc | apply Kd.R_drewN | apply Kd.R_drew)); exact HO_8.out))) (below_size (by repeat (first | (with_reducible first | exact HB.out | apply below_alloc | apply pw_below_drewN | apply below_drew1) | exact HB.out)))); have n4_ := Aside0.mk (below_step (by repeat (first | (with_reducible first | exact HB.out | apply below_alloc | apply pw_below_drewN | apply below_drew1) | exact HB.out)) hb); clear HO_6; clear HO_7; clear HO_8; clear HB; have HO_6 := n0_; have HO_7 := n1_; have HO_8 := n2_; have HO469 := n3_; have HB := n4_; clear n0_ n1_ n2_ n3_ n4_; (try clear hb); (try clear hb2); (try clear hk); (try clear hi); (try clear ho0); obtain ⟨Ao26, co26, eo26⟩ := Kd.R_slice HO_7.out; subst eo26) | (go_at_call 24; (with_reducible refine (order_Visual.calls _ _ x7_1 t470 _ ?side1 ?side2 A22.out).mono ?_); (case side1 => repeat (first | exact (Kd.R_reads' HO_7.out).2.2 | (with_reducible refine Kd.C_alloc ?_ _) | (with_reducible refine Kd.C_drewN ?_ _) | (with_reducible refine Kd.C_drew ?_))); (case side2 => exact (Kd.R_reads' HO_7.out).2.1); rintro e w27 ⟨v471, rfl, ho0, hb⟩; have n0_ := Aside0.mk (Kd.R_elder' (by (with_reducible repeat (first | apply Kd.R_alloc | apply Kd.R_drewN | apply Kd.R_drew)); exact HO_6.out) (Kd.R_base ho0) hb); have n1_ := Aside0.mk (Kd.R_elder' (by (with_reducible repeat (first | apply Kd.R_alloc | apply Kd.R_drewN | apply Kd.R_drew)); exact HO_7.out) (Kd.R_base ho0) hb); have n2_ := Aside0.mk (Kd.R_elder' (by (with_reducible repeat (first | apply Kd.R_alloc | apply Kd.R_drewN | apply Kd.R_drew)); exact HO_8.out) (Kd.R_base ho0) hb); have n3_ := Aside0.mk (Kd.R_elder' (by (with_reducible repeat (first | apply Kd.R_alloc | apply Kd.R_drewN | apply Kd.R_drew)); exact HO469.out) (Kd.R_base ho0) hb); have n4_ := Aside0.mk (Kd.R_lower (Kd.R_new' (Kd.R_new' (Kd.R_new' (Kd.R_new' ho0 (Kd.R_lt (by (with_reducible repeat (first | apply Kd.R_alloc | apply Kd.R_drewN | apply Kd.R_drew)); exact HO_6.out))) (Kd.R_lt (by (with_reducible repeat (first | apply Kd.R_alloc | apply Kd.R_drewN | apply Kd.R_drew)); exact HO_7.out))) (Kd.R_lt (by (with_reducible repeat (first | apply Kd.R_alloc | apply Kd.R_drewN | apply Kd.R_drew)); exact HO_8.out))) (Kd.R_lt (by (with_reducible repeat (first | apply Kd.R_alloc | apply Kd.R_drewN | apply Kd.R_drew)); exact HO469.out))) (below_size (by repeat (first | (with_reducible first | exact HB.out | apply below_alloc | apply pw_below_drewN | apply below_drew1) | exact HB.out)))); have n5_ := Aside0.mk (below_step (by repeat (first | (with_reducible first | exact HB.out | apply below_alloc | apply pw_below_drewN | apply below_drew1) | exact HB.out)) hb); clear HO_6; clear HO_7; clear HO_8; clear HO469; clear HB; have HO_6 := n0_; have HO_7 := n1_; have HO_8 := n2_; have HO469 := n3_; have HO472 := n4_; have HB := n5_; clear n0_ n1_ n2_ n3_ n4_ n5_; (try clear hb); (try clear hb2); (try clear hk); (try clear hi); (try clear ho0)))
            repeat (go_quiet (first | (go_at_call 24; (with_reducible refine (order_Visual.calls _ _ x6_1 t467 _ ?side1 ?side2 A21.out).mono ?_); (case side1 => repeat (first | exact (Kd.R_reads' HO_6.out).2.2 | (with_reducible refine Kd.C_alloc ?_ _) | (with_reducible refine Kd.C_drewN ?_ _) | (with_reducible refine Kd.C_drew ?_))); (case side2 => exact (Kd.R_reads' HO_6.out).2.1); rintro e w25 ⟨v468, rfl, ho0, hb⟩; have n0_ := Aside0.mk (Kd.R_elder' (by (with_reducible repeat (first | apply Kd.R_alloc | apply Kd.R_drewN | apply Kd.R_drew)); exact HO_6.out) (Kd.R_base ho0) hb); have n1_ := Aside0.mk (Kd.R_elder' (by (with_reducible repeat (first | apply Kd.R_alloc | apply Kd.R_drewN | apply Kd.R_drew)); exact HO_7.out) (Kd.R_base ho0) hb); have n2_ := Aside0.mk (Kd.R_elder' (by (with_reducible repeat (first | apply Kd.R_alloc | apply Kd.R_drewN | apply Kd.R_drew)); exact HO_8.out) (Kd.R_base ho0) hb); have n3_ := Aside0.mk (Kd.R_lower (Kd.R_new' (Kd.R_new' (Kd.R_new' ho0 (Kd.R_lt (by (with_reducible repeat (first | apply Kd.R_alloc | apply Kd.R_drewN | apply Kd.R_drew)); exact HO_6.out))) (Kd.R_lt (by (with_reducible repeat (first | apply Kd.R_alloc | apply Kd.R_drewN | apply Kd.R_drew)); exact HO_7.out))) (Kd.R_lt (by (with_reducible repeat (first | apply Kd.R_alloc | apply Kd.R_drewN | apply Kd.R_drew)); exact HO_8.out))) (below_size (by repeat (first | (with_reducible first | exact HB.out | apply below_alloc | apply pw_below_drewN | apply below_drew1) | exact HB.out)))); have n4_ := Aside0.mk (below_step (by repeat (first | (with_reducible first | exact HB.out | apply below_alloc | apply pw_below_drewN | apply below_drew1) | exact HB.out)) hb); clear HO_6; clear HO_7; clear HO_8; clear HB; have HO_6 := n0_; have HO_7 := n1_; have HO_8 := n2_; have HO469 := n3_; have HB := n4_; clear n0_ n1_ n2_ n3_ n4_; (try clear hb); (try clear hb2); (try clear hk); (try clear hi); (try clear ho0); obtain ⟨Ao26, co26, eo26⟩ := Kd.R_slice HO_7.out; subst eo26) | (go_at_call 24; (with_reducible refine (order_Visual.calls _ _ x7_1 t470 _ ?side1 ?side2 A22.out).mono ?_); (case side1 => repeat (first | exact (Kd.R_reads' HO_7.out).2.2 | (with_reducible refine Kd.C_alloc ?_ _) | (with_reducible refine Kd.C_drewN ?_ _) | (with_reducible refine Kd.C_drew ?_))); (case side2 => exact (Kd.R_reads' HO_7.out).2.1); rintro e w27 ⟨v471, rfl, ho0, hb⟩; have n0_ := Aside0.mk (Kd.R_elder' (by (with_reducible repeat (first | apply Kd.R_alloc | apply Kd.R_drewN | apply Kd.R_drew)); exact HO_6.out) (Kd.R_base ho0) hb); have n1_ := Aside0.mk (Kd.R_elder' (by (with_reducible repeat (first | apply Kd.R_alloc | apply Kd.R_drewN | apply Kd.R_drew)); exact HO_7.out) (Kd.R_base ho0) hb); have n2_ := Aside0.mk (Kd.R_elder' (by (with_reducible repeat (first | apply Kd.R_alloc | apply Kd.R_drewN | apply Kd.R_drew)); exact HO_8.out) (Kd.R_base ho0) hb); have n3_ := Aside0.mk (Kd.R_elder' (by (with_reducible repeat (first | apply Kd.R_alloc | apply Kd.R_drewN | apply Kd.R_drew)); exact HO469.out) (Kd.R_base ho0) hb); have n4_ := Aside0.mk (Kd.R_lower (Kd.R_new' (Kd.R_new' (Kd.R_new' (Kd.R_new' ho0 (Kd.R_lt (by (with_reducible repeat (first | apply Kd.R_alloc | apply Kd.R_drewN | apply Kd.R_drew)); exact HO_6.out))) (Kd.R_lt (by (with_reducible repeat (first | apply Kd.R_alloc | apply Kd.R_drewN | apply Kd.R_drew)); exact HO_7.out))) (Kd.R_lt (by (with_reducible repeat (first | apply Kd.R_alloc | apply Kd.R_drewN | apply Kd.R_drew)); exact HO_8.out))) (Kd.R_lt (by (with_reducible repeat (first | apply Kd.R_alloc | apply Kd.R_drewN | apply Kd.R_drew)); exact HO469.out))) (below_size (by repeat (first | (with_reducible first | exact HB.out | apply below_alloc | apply pw_below_drewN | apply below_drew1) | exact HB.out)))); have n5_ := Aside0.mk (below_step (by repeat (first | (with_reducible first | exact HB.out | apply below_alloc | apply pw_below_drewN | apply below_drew1) | exact HB.out)) hb); clear HO_6; clear HO_7; clear HO_8; clear HO469; clear HB; have HO_6 := n0_; have HO_7 := n1_; have HO_8 := n2_; have HO469 := n3_; have HO472 := n4_; have HB := n5_; clear n0_ n1_ n2_ n3_ n4_ n5_; (try clear hb); (try clear hb2); (try clear hk); (try clear hi); (try clear ho0))); go_upto_region 11 with (first | (go_at_call 24; (with_reducible refine (order_Visual.calls _ _ x6_1 t467 _ ?side1 ?side2 A21.out).mono ?_); (case side1 => repeat (first | exact (Kd.R_reads' HO_6.out).2.2 | (with_reducible refine Kd.C_alloc ?_ _) | (with_reducible refine Kd.C_drewN ?_ _) | (with_reducible refine Kd.C_drew ?_))); (case side2 => exact (Kd.R_reads' HO_6.out).2.1); rintro e w25 ⟨v468, rfl, ho0, hb⟩; have n0_ := Aside0.mk (Kd.R_elder' (by (with_reducible repeat (first | apply Kd.R_alloc | apply Kd.R_drewN | apply Kd.R_drew)); exact HO_6.out) (Kd.R_base ho0) hb); have n1_ := Aside0.mk (Kd.R_elder' (by (with_reducible repeat (first | apply Kd.R_alloc | apply Kd.R_drewN | apply Kd.R_drew)); exact HO_7.out) (Kd.R_base ho0) hb); have n2_ := Aside0.mk (Kd.R_elder' (by (with_reducible repeat (first | apply Kd.R_alloc | apply Kd.R_drewN | apply Kd.R_drew)); exact HO_8.out) (Kd.R_base ho0) hb); have n3_ := Aside0.mk (Kd.R_lower (Kd.R_new' (Kd.R_new' (Kd.R_new' ho0 (Kd.R_lt (by (with_reducible repeat (first | apply Kd.R_alloc | apply Kd.R_drewN | apply Kd.R_drew)); exact HO_6.out))) (Kd.R_lt (by (with_reducible repeat (first | apply Kd.R_alloc | apply Kd.R_drewN | apply Kd.R_drew)); exact HO_7.out))) (Kd.R_lt (by (with_reducible repeat (first | apply Kd.R_alloc | apply Kd.R_drewN | apply Kd.R_drew)); exact HO_8.out))) (below_size (by repeat (first | (with_reducible first | exact HB.out | apply below_alloc | apply pw_below_drewN | apply below_drew1) | exact HB.out)))); have n4_ := Aside0.mk (below_step (by repeat (first | (with_reducible first | exact HB.out | apply below_alloc | apply pw_below_drewN | apply below_drew1) | exact HB.out)) hb); clear HO_6; clear HO_7; clear HO_8; clear HB; have HO_6 := n0_; have HO_7 := n1_; have HO_8 := n2_; have HO469 := n3_; have HB := n4_; clear n0_ n1_ n2_ n3_ n4_; (try clear hb); (try clear hb2); (try clear hk); (try clear hi); (try clear ho0); obtain ⟨Ao26, co26, eo26⟩ := Kd.R_slice HO_7.out; subst eo26) | (go_at_call 24; (with_reducible refine (order_Visual.calls _ _ x7_1 t470 _ ?side1 ?side2 A22.out).mono ?_); (case side1 => repeat (first | exact (Kd.R_reads' HO_7.out).2.2 | (with_reducible refine Kd.C_alloc ?_ _) | (with_reducible refine Kd.C_drewN ?_ _) | (with_reducible refine Kd.C_drew ?_))); (case side2 => exact (Kd.R_reads' HO_7.out).2.1); rintro e w27 ⟨v471, rfl, ho0, hb⟩; have n0_ := Aside0.mk (Kd.R_elder' (by (with_reducible repeat (first | apply Kd.R_alloc | apply Kd.R_drewN | apply Kd.R_drew)); exact HO_6.out) (Kd.R_base ho0) hb); have n1_ := Aside0.mk (Kd.R_elder' (by (with_reducible repeat (first | apply Kd.R_alloc | apply Kd.R_drewN | apply Kd.R_drew)); exact HO_7.out) (Kd.R_base ho0) hb); have n2_ := Aside0.mk (Kd.R_elder' (by (with_reducible repeat (first | apply Kd.R_alloc | apply Kd.R_drewN | apply Kd.R_drew)); exact HO_8.out) (Kd.R_base ho0) hb); have n3_ := Aside0.mk (Kd.R_elder' (by (with_reducible repeat (first | apply Kd.R_alloc | apply Kd.R_drewN | apply Kd.R_drew)); exact HO469.out) (Kd.R_base ho0) hb); have n4_ := Aside0.mk (Kd.R_lower (Kd.R_new' (Kd.R_new' (Kd.R_new' (Kd.R_new' ho0 (Kd.R_lt (by (with_reducible repeat (first | apply Kd.R_alloc | apply Kd.R_drewN | apply Kd.R_drew)); exact HO_6.out))) (Kd.R_lt (by (with_reducible repeat (first | apply Kd.R_alloc | apply Kd.R_drewN | apply Kd.R_drew)); exact HO_7.out))) (Kd.R_lt (by (with_reducible repeat (first | apply Kd.R_alloc | apply Kd.R_drewN | apply Kd.R_drew)); exact HO_8.out))) (Kd.R_lt (by (with_reducible repeat (first | apply Kd.R_alloc | apply Kd.R_drewN | apply Kd.R_drew)); exact HO469.out))) (below_size (by repeat (first | (with_reducible first | exact HB.out | apply below_alloc | apply pw_below_drewN | apply below_drew1) | exact HB.out)))); have n5_ := Aside0.mk (below_step (by repeat (first | (with_reducible first | exact HB.out | apply below_alloc | apply pw_below_drewN | apply below_drew1) | exact HB.out)) hb); clear HO_6; clear HO_7; clear HO_8; clear HO469; clear HB; have HO_6 := n0_; have HO_7 := n1_; have HO_8 := n2_; have HO469 := n3_; have HO472 := n4_; have HB := n5_; clear n0_ n1_ n2_ n3_ n4_ n5_; (try clear hb); (try clear hb2); (try clear hk); (try clear hi); (try clear ho0))))
            (try simp only [Act.put, List.setIfInBounds_toArray, List.set_cons_zero, List.set_cons_succ])
            go_cut [71] (fun v71 wc => ∃ (kq : Nat) (x71_22 : Bool), v71 = .bool x71_22 ∧ Aside0 (abugidalaw07_OrderPieces.j1 kq a1 t452 x6_1 t467 t470 x71_22 = some r) ∧ Aside0 (kq ≤ k1) ∧ Aside0 (Kd.R (Kd.int .i64) 3 wc w.heap.size (fun k_ => some k_ ≠ (v468 : Value).ownBlock ∧ some k_ ≠ (v471 : Value).ownBlock) (.slice Ao24 x6_1.length co24) x6_1) ∧ Aside0 (Kd.R (Kd.int .i64) 3 wc w.heap.size (fun k_ => some k_ ≠ ((.slice Ao24 x6_1.length co24) : Value).ownBlock ∧ some k_ ≠ (v471 : Value).ownBlock) v468 t467) ∧ Aside0 (Kd.R (Kd.int .i64) 3 wc w.heap.size (fun k_ => some k_ ≠ ((.slice Ao24 x6_1.length co24) : Value).ownBlock ∧ some k_ ≠ (v468 : Value).ownBlock) v471 t470) ∧ Aside0 (Below w.heap.size w wc))
            case first =>
              have H := HC23.out
              clear HC23
              by_cases c28 : (t467.length : Int) = (x6_1.length : Int)
              · rw [if_pos c28] at H
                have c28b0 : ((t467.length : Int) == (x6_1.length : Int)) = true := beq_iff_eq.mpr c28
                have c28b1 : ((t467.length : Int) != (x6_1.length : Int)) = false := bne_eq_false_iff_eq.mpr c28
                have c28b2 : (t467.length == x6_1.length) = true := by first | simpa using c28 | (simp at c28 ⊢; omega)
                clear c28
                (first | rw [c28b0] | (simp only [i64_w, i32_w]; rw [c28b0]) | skip)
                by_cases c29 : (t470.length : Int) = (x6_1.length : Int)
                · rw [if_pos c29] at H
                  have c29b0 : ((t470.length : Int) == (x6_1.length : Int)) = true := beq_iff_eq.mpr c29
                  have c29b1 : ((t470.length : Int) != (x6_1.length : Int)) = false := bne_eq_false_iff_eq.mpr c29
                  have c29b2 : (t470.length == x6_1.length) = true := by first | simpa using c29 | (simp at c29 ⊢; omega)
                  clear c29
                  replace H := Option.bind_eq_some_iff.mp H
                  obtain ⟨t473, A300, H⟩ := H
                  replace H : ((abugidaref07_Equal.f k1 t473 t467).bind fun t476 => (abugidalaw07_OrderPieces.j1 k1 a1 t452 x6_1 t467 t470 (!t476))) = some r := H
                  have A30 := Aside0.mk A300
                  clear A300
                  replace H := Option.bind_eq_some_iff.mp H
                  obtain ⟨t476, A310, H⟩ := H
                  replace H : (abugidalaw07_OrderPieces.j1 k1 a1 t452 x6_1 t467 t470 (!t476)) = some r := H
                  have A31 := Aside0.mk A310
                  clear A310
                  have H' := Aside0.mk H
                  clear H
                  obtain ⟨Ao32, co32, eo32⟩ := Kd.R_slice HO469.out
                  subst eo32
                  obtain ⟨Ao33, co33, eo33⟩ := Kd.R_slice HO472.out
                  subst eo33
                  obtain ⟨Ao34, co34, eo34⟩ := Kd.R_slice HO_8.out
                  subst eo34
                  go_wp2_with (first | (go_at_call 24; (with_reducible refine (order_Visual.calls _ _ x8_1 t473 _ ?side1 ?side2 A30.out).mono ?_); (case side1 => repeat (first | exact (Kd.R_reads' HO_8.out).2.2 | (with_reducible refine Kd.C_alloc ?_ _) | (with_reducible refine Kd.C_drewN ?_ _) | (with_reducible refine Kd.C_drew ?_))); (case side2 => exact (Kd.R_reads' HO_8.out).2.1); rintro e w35 ⟨v474, rfl, ho0, hb⟩; have n0_ := Aside0.mk (Kd.R_elder' (by (with_reducible repeat (first | apply Kd.R_alloc | apply Kd.R_drewN | apply Kd.R_drew)); exact HO_6.out) (Kd.R_base ho0) hb); have n1_ := Aside0.mk (Kd.R_elder' (by (with_reducible repeat (first | apply Kd.R_alloc | apply Kd.R_drewN | apply Kd.R_drew)); exact HO_7.out) (Kd.R_base ho0) hb); have n2_ := Aside0.mk (Kd.R_elder' (by (with_reducible repeat (first | apply Kd.R_alloc | apply Kd.R_drewN | apply Kd.R_drew)); exact HO_8.out) (Kd.R_base ho0) hb); have n3_ := Aside0.mk (Kd.R_elder' (by (with_reducible repeat (first | apply Kd.R_alloc | apply Kd.R_drewN | apply Kd.R_drew)); exact HO469.out) (Kd.R_base ho0) hb); have n4_ := Aside0.mk (Kd.R_elder' (by (with_reducible repeat (first | apply Kd.R_alloc | apply Kd.R_drewN | apply Kd.R_drew)); exact HO472.out) (Kd.R_base ho0) hb); have n5_ := Aside0.mk (Kd.R_lower (Kd.R_new' (Kd.R_new' (Kd.R_new' (Kd.R_new' (Kd.R_new' ho0 (Kd.R_lt (by (with_reducible repeat (first | apply Kd.R_alloc | apply Kd.R_drewN | apply Kd.R_drew)); exact HO_6.out))) (Kd.R_lt (by (with_reducible repeat (first | apply Kd.R_alloc | apply Kd.R_drewN | apply Kd.R_drew)); exact HO_7.out))) (Kd.R_lt (by (with_reducible repeat (first | apply Kd.R_alloc | apply Kd.R_drewN | apply Kd.R_drew)); exact HO_8.out))) (Kd.R_lt (by (with_reducible repeat (first | apply Kd.R_alloc | apply Kd.R_drewN | apply Kd.R_drew)); exact HO469.out))) (Kd.R_lt (by (with_reducible repeat (first | apply Kd.R_alloc | apply Kd.R_drewN | apply Kd.R_drew)); exact HO472.out))) (below_size (by repeat (first | (with_reducible first | exact HB.out | apply below_alloc | apply pw_below_drewN | apply below_drew1) | exact HB.out)))); have n6_ := Aside0.mk (below_step (by repeat (first | (with_reducible first | exact HB.out | apply below_alloc | apply pw_below_drewN | apply below_drew1) | exact HB.out)) hb); clear HO_6; clear HO_7; clear HO_8; clear HO469; clear HO472; clear HB; have HO_6 := n0_; have HO_7 := n1_; have HO_8 := n2_; have HO469 := n3_; have HO472 := n4_; have HO475 := n5_; have HB := n6_; clear n0_ n1_ n2_ n3_ n4_ n5_ n6_; (try clear hb); (try clear hb2); (try clear hk); (try clear hi); (try clear ho0); obtain ⟨Ao36, co36, eo36⟩ := Kd.R_slice HO475.out; subst eo36) | (go_at_call 13; (with_reducible refine (abugidaref07_Equal.calls k1 _ _ t473 _ _ t467 t476 _ ?side1 ?side2 ?side3 ?side4 A31.out).mono ?_); (case side1 => repeat (first | exact (Kd.R_reads' HO475.out).2.2 | (with_reducible refine Kd.C_alloc ?_ _) | (with_reducible refine Kd.C_drewN ?_ _) | (with_reducible refine Kd.C_drew ?_))); (case side2 => exact (Kd.R_reads' HO475.out).2.1); (case side3 => repeat (first | exact (Kd.R_reads' HO469.out).2.2 | (with_reducible refine Kd.C_alloc ?_ _) | (with_reducible refine Kd.C_drewN ?_ _) | (with_reducible refine Kd.C_drew ?_))); (case side4 => exact (Kd.R_reads' HO469.out).2.1); rintro e w' ⟨rfl, ⟨nd, rfl⟩⟩; (try first | exact ⟨rfl, _, World.drewN_drewN _ _ _⟩ | exact ⟨rfl, _, Eq.trans (World.drewN_drewN _ _ _) (congrArg (World.drewN _) (Nat.add_assoc _ _ _))⟩)))
                  repeat (go_quiet (first | (go_at_call 24; (with_reducible refine (order_Visual.calls _ _ x8_1 t473 _ ?side1 ?side2 A30.out).mono ?_); (case side1 => repeat (first | exact (Kd.R_reads' HO_8.out).2.2 | (with_reducible refine Kd.C_alloc ?_ _) | (with_reducible refine Kd.C_drewN ?_ _) | (with_reducible refine Kd.C_drew ?_))); (case side2 => exact (Kd.R_reads' HO_8.out).2.1); rintro e w35 ⟨v474, rfl, ho0, hb⟩; have n0_ := Aside0.mk (Kd.R_elder' (by (with_reducible repeat (first | apply Kd.R_alloc | apply Kd.R_drewN | apply Kd.R_drew)); exact HO_6.out) (Kd.R_base ho0) hb); have n1_ := Aside0.mk (Kd.R_elder' (by (with_reducible repeat (first | apply Kd.R_alloc | apply Kd.R_drewN | apply Kd.R_drew)); exact HO_7.out) (Kd.R_base ho0) hb); have n2_ := Aside0.mk (Kd.R_elder' (by (with_reducible repeat (first | apply Kd.R_alloc | apply Kd.R_drewN | apply Kd.R_drew)); exact HO_8.out) (Kd.R_base ho0) hb); have n3_ := Aside0.mk (Kd.R_elder' (by (with_reducible repeat (first | apply Kd.R_alloc | apply Kd.R_drewN | apply Kd.R_drew)); exact HO469.out) (Kd.R_base ho0) hb); have n4_ := Aside0.mk (Kd.R_elder' (by (with_reducible repeat (first | apply Kd.R_alloc | apply Kd.R_drewN | apply Kd.R_drew)); exact HO472.out) (Kd.R_base ho0) hb); have n5_ := Aside0.mk (Kd.R_lower (Kd.R_new' (Kd.R_new' (Kd.R_new' (Kd.R_new' (Kd.R_new' ho0 (Kd.R_lt (by (with_reducible repeat (first | apply Kd.R_alloc | apply Kd.R_drewN | apply Kd.R_drew)); exact HO_6.out))) (Kd.R_lt (by (with_reducible repeat (first | apply Kd.R_alloc | apply Kd.R_drewN | apply Kd.R_drew)); exact HO_7.out))) (Kd.R_lt (by (with_reducible repeat (first | apply Kd.R_alloc | apply Kd.R_drewN | apply Kd.R_drew)); exact HO_8.out))) (Kd.R_lt (by (with_reducible repeat (first | apply Kd.R_alloc | apply Kd.R_drewN | apply Kd.R_drew)); exact HO469.out))) (Kd.R_lt (by (with_reducible repeat (first | apply Kd.R_alloc | apply Kd.R_drewN | apply Kd.R_drew)); exact HO472.out))) (below_size (by repeat (first | (with_reducible first | exact HB.out | apply below_alloc | apply pw_below_drewN | apply below_drew1) | exact HB.out)))); have n6_ := Aside0.mk (below_step (by repeat (first | (with_reducible first | exact HB.out | apply below_alloc | apply pw_below_drewN | apply below_drew1) | exact HB.out)) hb); clear HO_6; clear HO_7; clear HO_8; clear HO469; clear HO472; clear HB; have HO_6 := n0_; have HO_7 := n1_; have HO_8 := n2_; have HO469 := n3_; have HO472 := n4_; have HO475 := n5_; have HB := n6_; clear n0_ n1_ n2_ n3_ n4_ n5_ n6_; (try clear hb); (try clear hb2); (try clear hk); (try clear hi); (try clear ho0); obtain ⟨Ao36, co36, eo36⟩ := Kd.R_slice HO475.out; subst eo36) | (go_at_call 13; (with_reducible refine (abugidaref07_Equal.calls k1 _ _ t473 _ _ t467 t476 _ ?side1 ?side2 ?side3 ?side4 A31.out).mono ?_); (case side1 => repeat (first | exact (Kd.R_reads' HO475.out).2.2 | (with_reducible refine Kd.C_alloc ?_ _) | (with_reducible refine Kd.C_drewN ?_ _) | (with_reducible refine Kd.C_drew ?_))); (case side2 => exact (Kd.R_reads' HO475.out).2.1); (case side3 => repeat (first | exact (Kd.R_reads' HO469.out).2.2 | (with_reducible refine Kd.C_alloc ?_ _) | (with_reducible refine Kd.C_drewN ?_ _) | (with_reducible refine Kd.C_drew ?_))); (case side4 => exact (Kd.R_reads' HO469.out).2.1); rintro e w' ⟨rfl, ⟨nd, rfl⟩⟩; (try first | exact ⟨rfl, _, World.drewN_drewN _ _ _⟩ | exact ⟨rfl, _, Eq.trans (World.drewN_drewN _ _ _) (congrArg (World.drewN _) (Nat.add_assoc _ _ _))⟩))); try go_wp2_with (first | (go_at_call 24; (with_reducible refine (order_Visual.calls _ _ x8_1 t473 _ ?side1 ?side2 A30.out).mono ?_); (case side1 => repeat (first | exact (Kd.R_reads' HO_8.out).2.2 | (with_reducible refine Kd.C_alloc ?_ _) | (with_reducible refine Kd.C_drewN ?_ _) | (with_reducible refine Kd.C_drew ?_))); (case side2 => exact (Kd.R_reads' HO_8.out).2.1); rintro e w35 ⟨v474, rfl, ho0, hb⟩; have n0_ := Aside0.mk (Kd.R_elder' (by (with_reducible repeat (first | apply Kd.R_alloc | apply Kd.R_drewN | apply Kd.R_drew)); exact HO_6.out) (Kd.R_base ho0) hb); have n1_ := Aside0.mk (Kd.R_elder' (by (with_reducible repeat (first | apply Kd.R_alloc | apply Kd.R_drewN | apply Kd.R_drew)); exact HO_7.out) (Kd.R_base ho0) hb); have n2_ := Aside0.mk (Kd.R_elder' (by (with_reducible repeat (first | apply Kd.R_alloc | apply Kd.R_drewN | apply Kd.R_drew)); exact HO_8.out) (Kd.R_base ho0) hb); have n3_ := Aside0.mk (Kd.R_elder' (by (with_reducible repeat (first | apply Kd.R_alloc | apply Kd.R_drewN | apply Kd.R_drew)); exact HO469.out) (Kd.R_base ho0) hb); have n4_ := Aside0.mk (Kd.R_elder' (by (with_reducible repeat (first | apply Kd.R_alloc | apply Kd.R_drewN | apply Kd.R_drew)); exact HO472.out) (Kd.R_base ho0) hb); have n5_ := Aside0.mk (Kd.R_lower (Kd.R_new' (Kd.R_new' (Kd.R_new' (Kd.R_new' (Kd.R_new' ho0 (Kd.R_lt (by (with_reducible repeat (first | apply Kd.R_alloc | apply Kd.R_drewN | apply Kd.R_drew)); exact HO_6.out))) (Kd.R_lt (by (with_reducible repeat (first | apply Kd.R_alloc | apply Kd.R_drewN | apply Kd.R_drew)); exact HO_7.out))) (Kd.R_lt (by (with_reducible repeat (first | apply Kd.R_alloc | apply Kd.R_drewN | apply Kd.R_drew)); exact HO_8.out))) (Kd.R_lt (by (with_reducible repeat (first | apply Kd.R_alloc | apply Kd.R_drewN | apply Kd.R_drew)); exact HO469.out))) (Kd.R_lt (by (with_reducible repeat (first | apply Kd.R_alloc | apply Kd.R_drewN | apply Kd.R_drew)); exact HO472.out))) (below_size (by repeat (first | (with_reducible first | exact HB.out | apply below_alloc | apply pw_below_drewN | apply below_drew1) | exact HB.out)))); have n6_ := Aside0.mk (below_step (by repeat (first | (with_reducible first | exact HB.out | apply below_alloc | apply pw_below_drewN | apply below_drew1) | exact HB.out)) hb); clear HO_6; clear HO_7; clear HO_8; clear HO469; clear HO472; clear HB; have HO_6 := n0_; have HO_7 := n1_; have HO_8 := n2_; have HO469 := n3_; have HO472 := n4_; have HO475 := n5_; have HB := n6_; clear n0_ n1_ n2_ n3_ n4_ n5_ n6_; (try clear hb); (try clear hb2); (try clear hk); (try clear hi); (try clear ho0); obtain ⟨Ao36, co36, eo36⟩ := Kd.R_slice HO475.out; subst eo36) | (go_at_call 13; (with_reducible refine (abugidaref07_Equal.calls k1 _ _ t473 _ _ t467 t476 _ ?side1 ?side2 ?side3 ?side4 A31.out).mono ?_); (case side1 => repeat (first | exact (Kd.R_reads' HO475.out).2.2 | (with_reducible refine Kd.C_alloc ?_ _) | (with_reducible refine Kd.C_drewN ?_ _) | (with_reducible refine Kd.C_drew ?_))); (case side2 => exact (Kd.R_reads' HO475.out).2.1); (case side3 => repeat (first | exact (Kd.R_reads' HO469.out).2.2 | (with_reducible refine Kd.C_alloc ?_ _) | (with_reducible refine Kd.C_drewN ?_ _) | (with_reducible refine Kd.C_drew ?_))); (case side4 => exact (Kd.R_reads' HO469.out).2.1); rintro e w' ⟨rfl, ⟨nd, rfl⟩⟩; (try first | exact ⟨rfl, _, World.drewN_drewN _ _ _⟩ | exact ⟨rfl, _, Eq.trans (World.drewN_drewN _ _ _) (congrArg (World.drewN _) (Nat.add_assoc _ _ _))⟩))))
                  go_meet
                  case rel => exact ⟨_, (!t476), (by first | rfl | (simp; done) | (simp [*]; done)), H', ⟨by have := HK1.out; first | omega | exact Nat.le_refl _⟩, ⟨by (with_reducible repeat (first | apply Kd.R_alloc | apply Kd.R_drewN | apply Kd.R_drew)); exact Kd.R_mono HO_6.out (fun _ hk => ⟨hk.1.1.2, hk.1.2⟩)⟩, ⟨by (with_reducible repeat (first | apply Kd.R_alloc | apply Kd.R_drewN | apply Kd.R_drew)); exact Kd.R_mono HO469.out (fun _ hk => ⟨hk.1.1.1.1.2, hk.1.2⟩)⟩, ⟨by (with_reducible repeat (first | apply Kd.R_alloc | apply Kd.R_drewN | apply Kd.R_drew)); exact Kd.R_mono HO472.out (fun _ hk => ⟨hk.1.1.1.1.2, hk.1.2⟩)⟩, ⟨by repeat (first | (with_reducible first | exact HB.out | apply below_alloc | apply pw_below_drewN | apply below_drew1) | exact HB.out)⟩⟩
                · rw [if_neg c29] at H
                  have c29b0 : ((t470.length : Int) == (x6_1.length : Int)) = false := beq_eq_false_iff_ne.mpr c29
                  have c29b1 : ((t470.length : Int) != (x6_1.length : Int)) = true := bne_iff_ne.mpr c29
                  have c29b2 : (t470.length == x6_1.length) = false := by first | simpa using c29 | (simp at c29 ⊢; omega)
                  have H' := Aside0.mk H
                  clear H
                  obtain ⟨Ao37, co37, eo37⟩ := Kd.R_slice HO469.out
                  subst eo37
                  obtain ⟨Ao38, co38, eo38⟩ := Kd.R_slice HO472.out
                  subst eo38
                  go_wp2
                  repeat (go_quiet (fail); try go_wp2)
                  go_meet
                  case rel => exact ⟨_, (true), (by first | rfl | (simp; done) | (simp [*]; done)), H', ⟨by have := HK1.out; first | omega | exact Nat.le_refl _⟩, ⟨by (with_reducible repeat (first | apply Kd.R_alloc | apply Kd.R_drewN | apply Kd.R_drew)); exact Kd.R_mono HO_6.out (fun _ hk => ⟨hk.1.2, hk.2⟩)⟩, ⟨by (with_reducible repeat (first | apply Kd.R_alloc | apply Kd.R_drewN | apply Kd.R_drew)); exact Kd.R_mono HO469.out (fun _ hk => ⟨hk.1.1.1.2, hk.2⟩)⟩, ⟨by (with_reducible repeat (first | apply Kd.R_alloc | apply Kd.R_drewN | apply Kd.R_drew)); exact Kd.R_mono HO472.out (fun _ hk => ⟨hk.1.1.1.2, hk.2⟩)⟩, ⟨by repeat (first | (with_reducible first | exact HB.out | apply below_alloc | apply pw_below_drewN | apply below_drew1) | exact HB.out)⟩⟩
              · rw [if_neg c28] at H
                have c28b0 : ((t467.length : Int) == (x6_1.length : Int)) = false := beq_eq_false_iff_ne.mpr c28
                have c28b1 : ((t467.length : Int) != (x6_1.length : Int)) = true := bne_iff_ne.mpr c28
                have c28b2 : (t467.length == x6_1.length) = false := by first | simpa using c28 | (simp at c28 ⊢; omega)
                (first | rw [c28b0] | (simp only [i64_w, i32_w]; rw [c28b0]) | skip)
                have H' := Aside0.mk H
                clear H
                obtain ⟨Ao39, co39, eo39⟩ := Kd.R_slice HO469.out
                subst eo39
                go_wp2
                repeat (go_quiet (fail); try go_wp2)
                go_meet
                case rel => exact ⟨_, (true), (by first | rfl | (simp; done) | (simp [*]; done)), H', ⟨by have := HK1.out; first | omega | exact Nat.le_refl _⟩, ⟨by (with_reducible repeat (first | apply Kd.R_alloc | apply Kd.R_drewN | apply Kd.R_drew)); exact Kd.R_mono HO_6.out (fun _ hk => ⟨hk.1.2, hk.2⟩)⟩, ⟨by (with_reducible repeat (first | apply Kd.R_alloc | apply Kd.R_drewN | apply Kd.R_drew)); exact Kd.R_mono HO469.out (fun _ hk => ⟨hk.1.1.1.2, hk.2⟩)⟩, ⟨by (with_reducible repeat (first | apply Kd.R_alloc | apply Kd.R_drewN | apply Kd.R_drew)); exact Kd.R_mono HO472.out (fun _ hk => ⟨hk.1.1.1.2, hk.2⟩)⟩, ⟨by repeat (first | (with_reducible first | exact HB.out | apply below_alloc | apply pw_below_drewN | apply below_drew1) | exact HB.out)⟩⟩
            case rest =>
              clear HC23
              try clear c1
              try clear c2
              try clear p2
              try clear p4
              try clear q4
              try clear hx4
              try clear c5
              try clear c5b0
              try clear c5b1
              try clear c6
              try clear c6b0
              try clear c6b1
              try clear p6
              try clear c7
              try clear c9
              try clear c9b0
              try clear c10
              try clear c10b0
              try clear c11
              try clear c11b0
              try clear c13
              try clear c15
              try clear c17
              try clear c28
              try clear c28b0
              try clear c28b1
              try clear c28b2
              try clear c29
              try clear c29b0
              try clear c29b1
              try clear c29b2
              try clear hx454_0
              try clear p2
              try clear p454
              try clear q454
              obtain ⟨kq, x71_22, rfl, HA, HJ22, HO_6, HO_11, HO_12, HB⟩ := hcut
              cases kq with
              | zero => exact absurd HA.out (by simp [abugidalaw07_OrderPieces.j1])
              | succ kj22 =>
                have H := HA.out
                clear HA
                simp only [abugidalaw07_OrderPieces.j1] at H
                by_cases c40 : x71_22 = true
                · subst c40
                  have H1 : (some false) = some r := by rw [if_pos rfl] at H; exact H
                  clear H
                  have H := H1
                  clear H1
                  obtain rfl := Option.some.inj H
                  go_wp2
                  repeat (go_quiet (fail); try go_wp2)
                  go_ret
                  exact ⟨by first | rfl | (simp [errW_none, errW_some] <;> rfl) | (simp only [← hji4]; first | rfl | (simp [errW_none, errW_some] <;> rfl)) | (simp [*, errW_none, errW_some] <;> rfl), by repeat (first | (with_reducible first | exact HB.out | apply below_alloc | apply pw_below_drewN | apply below_drew1) | exact HB.out)⟩
                · replace c40 := Bool.eq_false_iff.mpr c40
                  subst c40
                  have H1 : (if 0 ≤ (x6_1.length : Int) then (if ((x6_1.length : Int) : Int).toNat ≤ 35184372088832 then (abugidalaw07_OrderPieces.l1 kj22 a1 t452 x6_1 t470 (List.replicate ((x6_1.length : Int) : Int).toNat 0) t467 (t467.length : Int) 0) else (none)) else (none)) = some r := by rw [if_neg (show ¬ (false = true) by decide)] at H; exact H
                  clear H
                  have H := H1
                  clear H1
                  by_cases c41 : 0 ≤ (x6_1.length : Int)
                  · rw [if_pos c41] at H
                    have c41b0 := eq_true c41
                    have c41b1 : decide (0 ≤ (x6_1.length : Int)) = true := decide_eq_true c41
                    clear c41
                    by_cases c42 : ((x6_1.length : Int) : Int).toNat ≤ 35184372088832
                    · rw [if_pos c42] at H
                      have c42b0 := eq_true c42
                      have c42b1 : decide (((x6_1.length : Int) : Int).toNat ≤ 35184372088832) = true := decide_eq_true c42
                      clear c42
                      obtain ⟨y477, hy477⟩ : ∃ y_ : List Int, y_ = (List.replicate ((x6_1.length : Int) : Int).toNat 0) := ⟨_, rfl⟩
                      replace H : (abugidalaw07_OrderPieces.l1 kj22 a1 t452 x6_1 t470 y477 t467 (t467.length : Int) 0) = some r := by first | (rw [hy477]; with_reducible exact H) | (have H2_ := (Option.bind_some _ _).symm.trans H; rw [hy477]; with_reducible exact H2_) | (have H2_ := (Option.bind_some _ _).symm.trans H; with_reducible exact H2_) | with_reducible exact H | (rw [hy477]; exact H) | exact H
                      have Ny477 := Aside0.mk hy477
                      clear hy477
                      have H' := Aside0.mk H
                      clear H
                      go_wp2_with (first | ((with_reducible refine gate_dst (N := 74) rfl ?_); (try (refine gate_guard (by rfl) ?_; dsimp only)); refine Kd.R_make (Kd.int .i64) _ 3 rfl (N := 74) rfl 26 _ _ rfl (x6_1.length : Int) rfl rfl Try.underlying26 (.int .i64 0) 8 info3 rfl (by decide) (by omega) 0 (ok := fun _ => True) (okp := fun _ => True) rfl (fun _ hk => hk) trivial (of_decide_eq_true (by first | (with_reducible assumption) | assumption)) (Nat.le_trans (Nat.mul_le_mul_right _ (of_decide_eq_true (by first | (with_reducible assumption) | assumption) : (x6_1.length : Int).toNat ≤ 35184372088832)) (by omega)) (Below.refl _ _) (Nat.le_refl _) ?_; intro v478 w43 ho44 hb hg_ hnew_; clear hg_ hnew_; (first | rw [← Ny477.out] at ho44 | (simp only [Int.reduceToNat] at ho44; rw [← Ny477.out] at ho44)); have n0_ := Aside0.mk (Kd.R_elder' (by (with_reducible repeat (first | apply Kd.R_alloc | apply Kd.R_drewN | apply Kd.R_drew)); exact HO_6.out) (Kd.R_base ho44) hb); have n1_ := Aside0.mk (Kd.R_elder' (by (with_reducible repeat (first | apply Kd.R_alloc | apply Kd.R_drewN | apply Kd.R_drew)); exact HO_11.out) (Kd.R_base ho44) hb); have n2_ := Aside0.mk (Kd.R_elder' (by (with_reducible repeat (first | apply Kd.R_alloc | apply Kd.R_drewN | apply Kd.R_drew)); exact HO_12.out) (Kd.R_base ho44) hb); have n3_ := Aside0.mk (Kd.R_lower (Kd.R_new' (Kd.R_new' (Kd.R_new' ho44 (Kd.R_lt (by (with_reducible repeat (first | apply Kd.R_alloc | apply Kd.R_drewN | apply Kd.R_drew)); exact HO_6.out))) (Kd.R_lt (by (with_reducible repeat (first | apply Kd.R_alloc | apply Kd.R_drewN | apply Kd.R_drew)); exact HO_11.out))) (Kd.R_lt (by (with_reducible repeat (first | apply Kd.R_alloc | apply Kd.R_drewN | apply Kd.R_drew)); exact HO_12.out))) (below_size (by repeat (first | (with_reducible first | exact HB.out | apply below_alloc | apply pw_below_drewN | apply below_drew1) | exact HB.out)))); have n4_ := Aside0.mk (below_step (by repeat (first | (with_reducible first | exact HB.out | apply below_alloc | apply pw_below_drewN | apply below_drew1) | exact HB.out)) hb); clear HO_6; clear HO_11; clear HO_12; clear HB; have HO_6 := n0_; have HO_11 := n1_; have HO_12 := n2_; have HO479 := n3_; have HB := n4_; clear n0_ n1_ n2_ n3_ n4_; clear hb ho44; obtain ⟨Ao45, co45, eo45⟩ := Kd.R_slice HO_11.out; subst eo45))
                      repeat (go_quiet (first | ((with_reducible refine gate_dst (N := 74) rfl ?_); (try (refine gate_guard (by rfl) ?_; dsimp only)); refine Kd.R_make (Kd.int .i64) _ 3 rfl (N := 74) rfl 26 _ _ rfl (x6_1.length : Int) rfl rfl Try.underlying26 (.int .i64 0) 8 info3 rfl (by decide) (by omega) 0 (ok := fun _ => True) (okp := fun _ => True) rfl (fun _ hk => hk) trivial (of_decide_eq_true (by first | (with_reducible assumption) | assumption)) (Nat.le_trans (Nat.mul_le_mul_right _ (of_decide_eq_true (by first | (with_reducible assumption) | assumption) : (x6_1.length : Int).toNat ≤ 35184372088832)) (by omega)) (Below.refl _ _) (Nat.le_refl _) ?_; intro v478 w43 ho44 hb hg_ hnew_; clear hg_ hnew_; (first | rw [← Ny477.out] at ho44 | (simp only [Int.reduceToNat] at ho44; rw [← Ny477.out] at ho44)); have n0_ := Aside0.mk (Kd.R_elder' (by (with_reducible repeat (first | apply Kd.R_alloc | apply Kd.R_drewN | apply Kd.R_drew)); exact HO_6.out) (Kd.R_base ho44) hb); have n1_ := Aside0.mk (Kd.R_elder' (by (with_reducible repeat (first | apply Kd.R_alloc | apply Kd.R_drewN | apply Kd.R_drew)); exact HO_11.out) (Kd.R_base ho44) hb); have n2_ := Aside0.mk (Kd.R_elder' (by (with_reducible repeat (first | apply Kd.R_alloc | apply Kd.R_drewN | apply Kd.R_drew)); exact HO_12.out) (Kd.R_base ho44) hb); have n3_ := Aside0.mk (Kd.R_lower (Kd.R_new' (Kd.R_new' (Kd.R_new' ho44 (Kd.R_lt (by (with_reducible repeat (first | apply Kd.R_alloc | apply Kd.R_drewN | apply Kd.R_drew)); exact HO_6.out))) (Kd.R_lt (by (with_reducible repeat (first | apply Kd.R_alloc | apply Kd.R_drewN | apply Kd.R_drew)); exact HO_11.out))) (Kd.R_lt (by (with_reducible repeat (first | apply Kd.R_alloc | apply Kd.R_drewN | apply Kd.R_drew)); exact HO_12.out))) (below_size (by repeat (first | (with_reducible first | exact HB.out | apply below_alloc | apply pw_below_drewN | apply below_drew1) | exact HB.out)))); have n4_ := Aside0.mk (below_step (by repeat (first | (with_reducible first | exact HB.out | apply below_alloc | apply pw_below_drewN | apply below_drew1) | exact HB.out)) hb); clear HO_6; clear HO_11; clear HO_12; clear HB; have HO_6 := n0_; have HO_11 := n1_; have HO_12 := n2_; have HO479 := n3_; have HB := n4_; clear n0_ n1_ n2_ n3_ n4_; clear hb ho44; obtain ⟨Ao45, co45, eo45⟩ := Kd.R_slice HO_11.out; subst eo45)); try go_wp2_with (first | ((with_reducible refine gate_dst (N := 74) rfl ?_); (try (refine gate_guard (by rfl) ?_; dsimp only)); refine Kd.R_make (Kd.int .i64) _ 3 rfl (N := 74) rfl 26 _ _ rfl (x6_1.length : Int) rfl rfl Try.underlying26 (.int .i64 0) 8 info3 rfl (by decide) (by omega) 0 (ok := fun _ => True) (okp := fun _ => True) rfl (fun _ hk => hk) trivial (of_decide_eq_true (by first | (with_reducible assumption) | assumption)) (Nat.le_trans (Nat.mul_le_mul_right _ (of_decide_eq_true (by first | (with_reducible assumption) | assumption) : (x6_1.length : Int).toNat ≤ 35184372088832)) (by omega)) (Below.refl _ _) (Nat.le_refl _) ?_; intro v478 w43 ho44 hb hg_ hnew_; clear hg_ hnew_; (first | rw [← Ny477.out] at ho44 | (simp only [Int.reduceToNat] at ho44; rw [← Ny477.out] at ho44)); have n0_ := Aside0.mk (Kd.R_elder' (by (with_reducible repeat (first | apply Kd.R_alloc | apply Kd.R_drewN | apply Kd.R_drew)); exact HO_6.out) (Kd.R_base ho44) hb); have n1_ := Aside0.mk (Kd.R_elder' (by (with_reducible repeat (first | apply Kd.R_alloc | apply Kd.R_drewN | apply Kd.R_drew)); exact HO_11.out) (Kd.R_base ho44) hb); have n2_ := Aside0.mk (Kd.R_elder' (by (with_reducible repeat (first | apply Kd.R_alloc | apply Kd.R_drewN | apply Kd.R_drew)); exact HO_12.out) (Kd.R_base ho44) hb); have n3_ := Aside0.mk (Kd.R_lower (Kd.R_new' (Kd.R_new' (Kd.R_new' ho44 (Kd.R_lt (by (with_reducible repeat (first | apply Kd.R_alloc | apply Kd.R_drewN | apply Kd.R_drew)); exact HO_6.out))) (Kd.R_lt (by (with_reducible repeat (first | apply Kd.R_alloc | apply Kd.R_drewN | apply Kd.R_drew)); exact HO_11.out))) (Kd.R_lt (by (with_reducible repeat (first | apply Kd.R_alloc | apply Kd.R_drewN | apply Kd.R_drew)); exact HO_12.out))) (below_size (by repeat (first | (with_reducible first | exact HB.out | apply below_alloc | apply pw_below_drewN | apply below_drew1) | exact HB.out)))); have n4_ := Aside0.mk (below_step (by repeat (first | (with_reducible first | exact HB.out | apply below_alloc | apply pw_below_drewN | apply below_drew1) | exact HB.out)) hb); clear HO_6; clear HO_11; clear HO_12; clear HB; have HO_6 := n0_; have HO_11 := n1_; have HO_12 := n2_; have HO479 := n3_; have HB := n4_; clear n0_ n1_ n2_ n3_ n4_; clear hb ho44; obtain ⟨Ao45, co45, eo45⟩ := Kd.R_slice HO_11.out; subst eo45)))
                      go_loopg [77] kj22 (fun kq v77 w' => ∃ (x13_3 : List Int) (x77_3 : Int), v77 = .int .i64 x77_3 ∧ Aside0 (abugidalaw07_OrderPieces.l1 kq a1 t452 x6_1 t470 x13_3 t467 (t467.length : Int) x77_3 = some r) ∧ Aside0 (kq ≤ kj22) ∧ Aside0 (Kd.R (Kd.int .i64) 3 w' w.heap.size (fun k_ => some k_ ≠ (v471 : Value).ownBlock ∧ some k_ ≠ (v478 : Value).ownBlock ∧ some k_ ≠ ((.slice Ao45 t467.length co45) : Value).ownBlock) (.slice Ao24 x6_1.length co24) x6_1) ∧ Aside0 (Kd.R (Kd.int .i64) 3 w' w.heap.size (fun k_ => some k_ ≠ ((.slice Ao24 x6_1.length co24) : Value).ownBlock ∧ some k_ ≠ (v478 : Value).ownBlock ∧ some k_ ≠ ((.slice Ao45 t467.length co45) : Value).ownBlock) v471 t470) ∧ Aside0 (Kd.R (Kd.int .i64) 3 w' w.heap.size (fun k_ => some k_ ≠ ((.slice Ao24 x6_1.length co24) : Value).ownBlock ∧ some k_ ≠ (v471 : Value).ownBlock ∧ some k_ ≠ ((.slice Ao45 t467.length co45) : Value).ownBlock) v478 x13_3) ∧ Aside0 (Kd.R (Kd.int .i64) 3 w' w.heap.size (fun k_ => some k_ ≠ ((.slice Ao24 x6_1.length co24) : Value).ownBlock ∧ some k_ ≠ (v471 : Value).ownBlock ∧ some k_ ≠ (v478 : Value).ownBlock) (.slice Ao45 t467.length co45) t467) ∧ Aside0 (Below w.heap.size w w'))
                      case atStart => exact ⟨(y477), (0), (by first | rfl | (simp; done) | (simp [*]; done)), H', ⟨Nat.le_refl _⟩, ⟨by (with_reducible repeat (first | apply Kd.R_alloc | apply Kd.R_drewN | apply Kd.R_drew)); exact Kd.R_mono HO_6.out (fun _ hk => ⟨hk.1.2, ⟨hk.2, hk.1.1⟩⟩)⟩, ⟨by (with_reducible repeat (first | apply Kd.R_alloc | apply Kd.R_drewN | apply Kd.R_drew)); exact Kd.R_mono HO_12.out (fun _ hk => ⟨hk.1.1, ⟨hk.2, hk.1.2⟩⟩)⟩, ⟨by (with_reducible repeat (first | apply Kd.R_alloc | apply Kd.R_drewN | apply Kd.R_drew)); exact Kd.R_mono HO479.out (fun _ hk => ⟨hk.1.1.2, ⟨hk.2, hk.1.2⟩⟩)⟩, ⟨by (with_reducible repeat (first | apply Kd.R_alloc | apply Kd.R_drewN | apply Kd.R_drew)); exact Kd.R_mono HO_11.out (fun _ hk => ⟨hk.1.1, ⟨hk.1.2, hk.2⟩⟩)⟩, ⟨by repeat (first | (with_reducible first | exact HB.out | apply below_alloc | apply pw_below_drewN | apply below_drew1) | exact HB.out)⟩⟩
                      case round =>
                        clear H'
                        try clear c1
                        try clear c2
                        try clear p2
                        try clear c4
                        try clear p4
                        try clear q4
                        try clear hx4
                        try clear c5
                        try clear c5b0
                        try clear c5b1
                        try clear c6
                        try clear c6b0
                        try clear c6b1
                        try clear p6
                        try clear c7
                        try clear c9
                        try clear c9b0
                        try clear c10
                        try clear c10b0
                        try clear c11
                        try clear c11b0
                        try clear c13
                        try clear c15
                        try clear c17
                        try clear c28
                        try clear c28b0
                        try clear c28b1
                        try clear c28b2
                        try clear c29
                        try clear c29b0
                        try clear c29b1
                        try clear c29b2
                        try clear c40
                        try clear c41
                        try clear c41b0
                        try clear c41b1
                        try clear c42
                        try clear c42b0
                        try clear c42b1
                        try clear p45
                        try clear q45
                        try clear hx45
                        try clear hx454_0
                        try clear p2
                        try clear p4
                        try clear p454
                        try clear p6
                        try clear q4
                        try clear q454
                        obtain ⟨x13_3, x77_3, rfl, HA, HK3, HO_6, HO_12, HO_13, HO_75, HB⟩ := hrel
                        cases gk with
                        | zero => exact absurd HA.out (by simp [abugidalaw07_OrderPieces.l1])
                        | succ k3 =>
                          have H := HA.out
                          clear HA
                          simp only [abugidalaw07_OrderPieces.l1] at H
                          by_cases c46 : x77_3 < (t467.length : Int)
                          · rw [if_pos c46] at H
                            have c46b0 : decide (x77_3 < (t467.length : Int)) = true := decide_eq_true c46
                            clear c46
                            by_cases c47 : 0 ≤ x77_3
                            · rw [if_pos c47] at H
                              have c47b0 : decide (0 ≤ x77_3) = true := decide_eq_true c47
                              clear c47
                              by_cases c48 : x77_3 < (t467.length : Int)
                              · rw [if_pos c48] at H
                                have c48b0 : decide (x77_3 < (t467.length : Int)) = true := decide_eq_true c48
                                clear c48
                                by_cases c49 : (rd t467 x77_3) < 0
                                · rw [if_pos c49] at H
                                  have c49b0 : decide ((rd t467 x77_3) < 0) = true := decide_eq_true c49
                                  clear c49
                                  obtain rfl := Option.some.inj H
                                  have p480 : 0 ≤ (x77_3 : Int) := of_decide_eq_true (by first | (with_reducible assumption) | assumption)
                                  have q480 : x77_3 < (t467.length : Int) := of_decide_eq_true (by first | (with_reducible assumption) | assumption)
                                  obtain ⟨ad480, e480, hx480_0⟩ := Kd.at_int (Kd.R_reads' HO_75.out).2.2 x77_3 p480 q480
                                  cases e480
                                  replace p480 := eq_true p480
                                  replace q480 := eq_true q480
                                  go_wp2
                                  repeat (go_quiet (fail); try go_wp2)
                                  go_ret
                                  exact ⟨by first | rfl | (simp [errW_none, errW_some] <;> rfl) | (simp only [← hji4]; first | rfl | (simp [errW_none, errW_some] <;> rfl)) | (simp [*, errW_none, errW_some] <;> rfl), by repeat (first | (with_reducible first | exact HB.out | apply below_alloc | apply pw_below_drewN | apply below_drew1) | exact HB.out)⟩
                                · rw [if_neg c49] at H
                                  have c49b0 : decide ((rd t467 x77_3) < 0) = false := decide_eq_false c49
                                  clear c49
                                  by_cases c50 : (rd t467 x77_3) ≥ (x6_1.length : Int)
                                  · rw [if_pos c50] at H
                                    have c50b0 : decide ((x6_1.length : Int) ≤ (rd t467 x77_3)) = true := decide_eq_true c50
                                    clear c50
                                    obtain rfl := Option.some.inj H
                                    have p480 : 0 ≤ (x77_3 : Int) := of_decide_eq_true (by first | (with_reducible assumption) | assumption)
                                    have q480 : x77_3 < (t467.length : Int) := of_decide_eq_true (by first | (with_reducible assumption) | assumption)
                                    obtain ⟨ad480, e480, hx480_0⟩ := Kd.at_int (Kd.R_reads' HO_75.out).2.2 x77_3 p480 q480
                                    cases e480
                                    replace p480 := eq_true p480
                                    replace q480 := eq_true q480
                                    go_wp2
                                    repeat (go_quiet (fail); try go_wp2)
                                    go_ret
                                    exact ⟨by first | rfl | (simp [errW_none, errW_some] <;> rfl) | (simp only [← hji4]; first | rfl | (simp [errW_none, errW_some] <;> rfl)) | (simp [*, errW_none, errW_some] <;> rfl), by repeat (first | (with_reducible first | exact HB.out | apply below_alloc | apply pw_below_drewN | apply below_drew1) | exact HB.out)⟩
                                  · rw [if_neg c50] at H
                                    have c50b0 : decide ((x6_1.length : Int) ≤ (rd t467 x77_3)) = false := decide_eq_false c50
                                    clear c50
                                    obtain ⟨ji51, hji51⟩ : ∃ j_ : Int, (wrap64 ((wrap64 ((t470.length : Int) - 1)) - x77_3)) = j_ := ⟨_, rfl⟩
                                    replace H : (if 0 ≤ (ji51) then (if (ji51) < (t470.length : Int) then (if (rd t470 (ji51)) = (rd t467 x77_3) then (if 0 ≤ (rd t467 x77_3) then (if (rd t467 x77_3) < (x13_3.length : Int) then (abugidalaw07_OrderPieces.l1 k3 a1 t452 x6_1 t470 (x13_3.set ((rd t467 x77_3) : Int).toNat x77_3) t467 (t467.length : Int) (wrap64 (x77_3 + 1))) else (none)) else (none)) else (some false)) else (none)) else (none)) = some r := by first | (rw [hji51] at H; exact H) | (simp only [hji51] at H ⊢; exact H)
                                    have hji51w : (IntKind.i64.wrap ((wrap64 ((t470.length : Int) - 1)) - x77_3)) = ji51 := (i64_w _).trans hji51
                                    by_cases c52 : 0 ≤ (ji51)
                                    · rw [if_pos c52] at H
                                      have c52b0 : decide (0 ≤ (ji51)) = true := decide_eq_true c52
                                      clear c52
                                      by_cases c53 : (ji51) < (t470.length : Int)
                                      · rw [if_pos c53] at H
                                        have c53b0 : decide ((ji51) < (t470.length : Int)) = true := decide_eq_true c53
                                        clear c53
                                        by_cases c54 : (rd t470 (ji51)) = (rd t467 x77_3)
                                        · rw [if_pos c54] at H
                                          have c54b0 : ((rd t470 (ji51)) == (rd t467 x77_3)) = true := beq_iff_eq.mpr c54
                                          have c54b1 : ((rd t470 (ji51)) != (rd t467 x77_3)) = false := bne_eq_false_iff_eq.mpr c54
                                          clear c54
                                          by_cases c55 : 0 ≤ (rd t467 x77_3)
                                          · rw [if_pos c55] at H
                                            have c55b0 : decide (0 ≤ (rd t467 x77_3)) = true := decide_eq_true c55
                                            clear c55
                                            by_cases c56 : (rd t467 x77_3) < (x13_3.length : Int)
                                            · rw [if_pos c56] at H
                                              have c56b0 : decide ((rd t467 x77_3) < (x13_3.length : Int)) = true := decide_eq_true c56
                                              clear c56
                                              obtain ⟨y482, hy482⟩ : ∃ y_ : List Int, y_ = (x13_3.set ((rd t467 x77_3) : Int).toNat x77_3) := ⟨_, rfl⟩
                                              replace H : (abugidalaw07_OrderPieces.l1 k3 a1 t452 x6_1 t470 y482 t467 (t467.length : Int) (wrap64 (x77_3 + 1))) = some r := by first | (rw [hy482]; with_reducible exact H) | (have H2_ := (Option.bind_some _ _).symm.trans H; rw [hy482]; with_reducible exact H2_) | (have H2_ := (Option.bind_some _ _).symm.trans H; with_reducible exact H2_) | with_reducible exact H | (rw [hy482]; exact H) | exact H
                                              have Ny482 := Aside0.mk hy482
                                              clear hy482
                                              have H' := Aside0.mk H
                                              clear H
                                              have p480 : 0 ≤ (x77_3 : Int) := of_decide_eq_true (by first | (with_reducible assumption) | assumption)
                                              have q480 : x77_3 < (t467.length : Int) := of_decide_eq_true (by first | (with_reducible assumption) | assumption)
                                              obtain ⟨ad480, e480, hx480_0⟩ := Kd.at_int (Kd.R_reads' HO_75.out).2.2 x77_3 p480 q480
                                              cases e480
                                              replace p480 := eq_true p480
                                              replace q480 := eq_true q480
                                              obtain ⟨Ao58, co58, eo58⟩ := Kd.R_slice HO_12.out
                                              subst eo58
                                              have p481 : 0 ≤ ((ji51) : Int) := of_decide_eq_true (by first | (with_reducible assumption) | assumption)
                                              have q481 : (ji51) < (t470.length : Int) := of_decide_eq_true (by first | (with_reducible assumption) | assumption)
                                              obtain ⟨ad481, e481, hx481_0⟩ := Kd.at_int (Kd.R_reads' HO_12.out).2.2 (ji51) p481 q481
                                              cases e481
                                              replace p481 := eq_true p481
                                              replace q481 := eq_true q481
                                              have p57 : 0 ≤ ((rd t467 x77_3) : Int) := of_decide_eq_true (by first | (with_reducible assumption) | assumption)
                                              have q57 : ((rd t467 x77_3) : Int) < ((x13_3.length : Int) : Int) := of_decide_eq_true (by first | (with_reducible assumption) | assumption)
                                              obtain ⟨go57, co57, eo57, gb57, gl57, cl57, HG57⟩ := Kd.R_form HO_13.out (by omega)
                                              (first | cases eo57 | (injection eo57 with ea_ en_ ec_; (first | subst ea_ | (injection ea_ with ea_; subst ea_)); subst ec_; clear en_))
                                              have GB57 := Aside0.mk gb57
                                              have GG57 := Aside0.mk HG57
                                              clear gb57 gl57 HG57
                                              obtain ⟨hx57_0, hf57_0⟩ := Kd.R_celln 0 HO_13.out ((rd t467 x77_3) : Int) p57 q57
                                              replace p57 := eq_true p57
                                              replace q57 := eq_true q57
                                              have HP59 := Kd.R_putg HO_13.out ((rd t467 x77_3) : Int) x77_3
                                              go_wp2_with (first | ((with_reducible refine gate_store (t := 3) (p := 105) rfl ?_); (try (rw [drewN_self wr]; generalize hq_ : World.drewN wr _ = wr; have n0_ := Aside0.mk (Kd.R_at hq_ HO_6.out); have n1_ := Aside0.mk (Kd.R_at hq_ HO_12.out); have n2_ := Aside0.mk (Kd.R_at hq_ HO_13.out); have n3_ := Aside0.mk (Kd.R_at hq_ HO_75.out); have n4_ := Aside0.mk (below_at hq_ HB.out); clear hq_ HO_6 HO_12 HO_13 HO_75 HB; have HO_6 := n0_; have HO_12 := n1_; have HO_13 := n2_; have HO_75 := n3_; have HB := n4_; clear n0_ n1_ n2_ n3_ n4_; (try (have HP59 := Kd.R_putg HO_13.out ((rd t467 x77_3) : Int) x77_3)))); refine store_event (t := 3) (p := 105) (v := ?vo_w60) (w1 := (wr.setCell ⟨go57, ((rd t467 x77_3) : Int).toNat, none⟩ (.int .i64 x77_3))) ?hg ?ho ?hn ?hr ?_; (case ho => rfl); (case hg => rfl); (case hn => rfl); (case hr => first | (go_simp; done) | (go_simp; rfl)); intro w60 hw; have hg : wr.grownBy w60 (some go57) := (by rw [hw]; exact HP59.2); have hp_ : Kd.R (Kd.int .i64) 3 w60 w.heap.size (fun k_ => some k_ ≠ (.slice Ao24 x6_1.length co24 : Value).ownBlock ∧ some k_ ≠ (.slice (some ad481) t470.length co58 : Value).ownBlock ∧ some k_ ≠ (.slice (some ad480) t467.length co45 : Value).ownBlock) (.slice (some ⟨go57, 0, none⟩) x13_3.length co57) y482 := (by rw [hw, Ny482.out]; exact HP59.1); clear HP59; have n0_ := Aside0.mk (Kd.R_after (v := (.slice (some ⟨go57, 0, none⟩) x13_3.length co57)) (v1 := (.slice (some ⟨go57, 0, none⟩) x13_3.length co57)) (ok := (fun k_ => some k_ ≠ (.slice (some ad481) t470.length co58 : Value).ownBlock ∧ some k_ ≠ (.slice (some ad480) t467.length co45 : Value).ownBlock)) (by (with_reducible repeat (first | apply Kd.R_alloc | apply Kd.R_drewN | apply Kd.R_drew)); exact Kd.R_mono HO_6.out (fun _ hk => ⟨⟨hk.1, hk.2.2⟩, hk.2.1⟩)) hg (.inl rfl)); have n1_ := Aside0.mk (Kd.R_after (v := (.slice (some ⟨go57, 0, none⟩) x13_3.length co57)) (v1 := (.slice (some ⟨go57, 0, none⟩) x13_3.length co57)) (ok := (fun k_ => some k_ ≠ (.slice Ao24 x6_1.length co24 : Value).ownBlock ∧ some k_ ≠ (.slice (some ad480) t467.length co45 : Value).ownBlock)) (by (with_reducible repeat (first | apply Kd.R_alloc | apply Kd.R_drewN | apply Kd.R_drew)); exact Kd.R_mono HO_12.out (fun _ hk => ⟨⟨hk.1, hk.2.2⟩, hk.2.1⟩)) hg (.inl rfl)); have n2_ := Aside0.mk (hp_); have n3_ := Aside0.mk (Kd.R_after (v := (.slice (some ⟨go57, 0, none⟩) x13_3.length co57)) (v1 := (.slice (some ⟨go57, 0, none⟩) x13_3.length co57)) (ok := (fun k_ => some k_ ≠ (.slice Ao24 x6_1.length co24 : Value).ownBlock ∧ some k_ ≠ (.slice (some ad481) t470.length co58 : Value).ownBlock)) (by (with_reducible repeat (first | apply Kd.R_alloc | apply Kd.R_drewN | apply Kd.R_drew)); exact Kd.R_mono HO_75.out (fun _ hk => ⟨⟨hk.1, hk.2.1⟩, hk.2.2⟩)) hg (.inl rfl)); have n4_ := Aside0.mk ((by rw [hw]; exact below_set (HB.out) GB57.out : Below w.heap.size w w60)); clear HO_6; clear HO_12; clear HO_13; clear HO_75; clear HB; have HO_6 := n0_; have HO_12 := n1_; have HO_13 := n2_; have HO_75 := n3_; have HB := n4_; clear n0_ n1_ n2_ n3_ n4_; clear hg hw hp_))
                                              repeat (go_quiet (first | ((with_reducible refine gate_store (t := 3) (p := 105) rfl ?_); (try (rw [drewN_self wr]; generalize hq_ : World.drewN wr _ = wr; have n0_ := Aside0.mk (Kd.R_at hq_ HO_6.out); have n1_ := Aside0.mk (Kd.R_at hq_ HO_12.out); have n2_ := Aside0.mk (Kd.R_at hq_ HO_13.out); have n3_ := Aside0.mk (Kd.R_at hq_ HO_75.out); have n4_ := Aside0.mk (below_at hq_ HB.out); clear hq_ HO_6 HO_12 HO_13 HO_75 HB; have HO_6 := n0_; have HO_12 := n1_; have HO_13 := n2_; have HO_75 := n3_; have HB := n4_; clear n0_ n1_ n2_ n3_ n4_; (try (have HP59 := Kd.R_putg HO_13.out ((rd t467 x77_3) : Int) x77_3)))); refine store_event (t := 3) (p := 105) (v := ?vo_w60) (w1 := (wr.setCell ⟨go57, ((rd t467 x77_3) : Int).toNat, none⟩ (.int .i64 x77_3))) ?hg ?ho ?hn ?hr ?_; (case ho => rfl); (case hg => rfl); (case hn => rfl); (case hr => first | (go_simp; done) | (go_simp; rfl)); intro w60 hw; have hg : wr.grownBy w60 (some go57) := (by rw [hw]; exact HP59.2); have hp_ : Kd.R (Kd.int .i64) 3 w60 w.heap.size (fun k_ => some k_ ≠ (.slice Ao24 x6_1.length co24 : Value).ownBlock ∧ some k_ ≠ (.slice (some ad481) t470.length co58 : Value).ownBlock ∧ some k_ ≠ (.slice (some ad480) t467.length co45 : Value).ownBlock) (.slice (some ⟨go57, 0, none⟩) x13_3.length co57) y482 := (by rw [hw, Ny482.out]; exact HP59.1); clear HP59; have n0_ := Aside0.mk (Kd.R_after (v := (.slice (some ⟨go57, 0, none⟩) x13_3.length co57)) (v1 := (.slice (some ⟨go57, 0, none⟩) x13_3.length co57)) (ok := (fun k_ => some k_ ≠ (.slice (some ad481) t470.length co58 : Value).ownBlock ∧ some k_ ≠ (.slice (some ad480) t467.length co45 : Value).ownBlock)) (by (with_reducible repeat (first | apply Kd.R_alloc | apply Kd.R_drewN | apply Kd.R_drew)); exact Kd.R_mono HO_6.out (fun _ hk => ⟨⟨hk.1, hk.2.2⟩, hk.2.1⟩)) hg (.inl rfl)); have n1_ := Aside0.mk (Kd.R_after (v := (.slice (some ⟨go57, 0, none⟩) x13_3.length co57)) (v1 := (.slice (some ⟨go57, 0, none⟩) x13_3.length co57)) (ok := (fun k_ => some k_ ≠ (.slice Ao24 x6_1.length co24 : Value).ownBlock ∧ some k_ ≠ (.slice (some ad480) t467.length co45 : Value).ownBlock)) (by (with_reducible repeat (first | apply Kd.R_alloc | apply Kd.R_drewN | apply Kd.R_drew)); exact Kd.R_mono HO_12.out (fun _ hk => ⟨⟨hk.1, hk.2.2⟩, hk.2.1⟩)) hg (.inl rfl)); have n2_ := Aside0.mk (hp_); have n3_ := Aside0.mk (Kd.R_after (v := (.slice (some ⟨go57, 0, none⟩) x13_3.length co57)) (v1 := (.slice (some ⟨go57, 0, none⟩) x13_3.length co57)) (ok := (fun k_ => some k_ ≠ (.slice Ao24 x6_1.length co24 : Value).ownBlock ∧ some k_ ≠ (.slice (some ad481) t470.length co58 : Value).ownBlock)) (by (with_reducible repeat (first | apply Kd.R_alloc | apply Kd.R_drewN | apply Kd.R_drew)); exact Kd.R_mono HO_75.out (fun _ hk => ⟨⟨hk.1, hk.2.1⟩, hk.2.2⟩)) hg (.inl rfl)); have n4_ := Aside0.mk ((by rw [hw]; exact below_set (HB.out) GB57.out : Below w.heap.size w w60)); clear HO_6; clear HO_12; clear HO_13; clear HO_75; clear HB; have HO_6 := n0_; have HO_12 := n1_; have HO_13 := n2_; have HO_75 := n3_; have HB := n4_; clear n0_ n1_ n2_ n3_ n4_; clear hg hw hp_)); try go_wp2_with (first | ((with_reducible refine gate_store (t := 3) (p := 105) rfl ?_); (try (rw [drewN_self wr]; generalize hq_ : World.drewN wr _ = wr; have n0_ := Aside0.mk (Kd.R_at hq_ HO_6.out); have n1_ := Aside0.mk (Kd.R_at hq_ HO_12.out); have n2_ := Aside0.mk (Kd.R_at hq_ HO_13.out); have n3_ := Aside0.mk (Kd.R_at hq_ HO_75.out); have n4_ := Aside0.mk (below_at hq_ HB.out); clear hq_ HO_6 HO_12 HO_13 HO_75 HB; have HO_6 := n0_; have HO_12 := n1_; have HO_13 := n2_; have HO_75 := n3_; have HB := n4_; clear n0_ n1_ n2_ n3_ n4_; (try (have HP59 := Kd.R_putg HO_13.out ((rd t467 x77_3) : Int) x77_3)))); refine store_event (t := 3) (p := 105) (v := ?vo_w60) (w1 := (wr.setCell ⟨go57, ((rd t467 x77_3) : Int).toNat, none⟩ (.int .i64 x77_3))) ?hg ?ho ?hn ?hr ?_; (case ho => rfl); (case hg => rfl); (case hn => rfl); (case hr => first | (go_simp; done) | (go_simp; rfl)); intro w60 hw; have hg : wr.grownBy w60 (some go57) := (by rw [hw]; exact HP59.2); have hp_ : Kd.R (Kd.int .i64) 3 w60 w.heap.size (fun k_ => some k_ ≠ (.slice Ao24 x6_1.length co24 : Value).ownBlock ∧ some k_ ≠ (.slice (some ad481) t470.length co58 : Value).ownBlock ∧ some k_ ≠ (.slice (some ad480) t467.length co45 : Value).ownBlock) (.slice (some ⟨go57, 0, none⟩) x13_3.length co57) y482 := (by rw [hw, Ny482.out]; exact HP59.1); clear HP59; have n0_ := Aside0.mk (Kd.R_after (v := (.slice (some ⟨go57, 0, none⟩) x13_3.length co57)) (v1 := (.slice (some ⟨go57, 0, none⟩) x13_3.length co57)) (ok := (fun k_ => some k_ ≠ (.slice (some ad481) t470.length co58 : Value).ownBlock ∧ some k_ ≠ (.slice (some ad480) t467.length co45 : Value).ownBlock)) (by (with_reducible repeat (first | apply Kd.R_alloc | apply Kd.R_drewN | apply Kd.R_drew)); exact Kd.R_mono HO_6.out (fun _ hk => ⟨⟨hk.1, hk.2.2⟩, hk.2.1⟩)) hg (.inl rfl)); have n1_ := Aside0.mk (Kd.R_after (v := (.slice (some ⟨go57, 0, none⟩) x13_3.length co57)) (v1 := (.slice (some ⟨go57, 0, none⟩) x13_3.length co57)) (ok := (fun k_ => some k_ ≠ (.slice Ao24 x6_1.length co24 : Value).ownBlock ∧ some k_ ≠ (.slice (some ad480) t467.length co45 : Value).ownBlock)) (by (with_reducible repeat (first | apply Kd.R_alloc | apply Kd.R_drewN | apply Kd.R_drew)); exact Kd.R_mono HO_12.out (fun _ hk => ⟨⟨hk.1, hk.2.2⟩, hk.2.1⟩)) hg (.inl rfl)); have n2_ := Aside0.mk (hp_); have n3_ := Aside0.mk (Kd.R_after (v := (.slice (some ⟨go57, 0, none⟩) x13_3.length co57)) (v1 := (.slice (some ⟨go57, 0, none⟩) x13_3.length co57)) (ok := (fun k_ => some k_ ≠ (.slice Ao24 x6_1.length co24 : Value).ownBlock ∧ some k_ ≠ (.slice (some ad481) t470.length co58 : Value).ownBlock)) (by (with_reducible repeat (first | apply Kd.R_alloc | apply Kd.R_drewN | apply Kd.R_drew)); exact Kd.R_mono HO_75.out (fun _ hk => ⟨⟨hk.1, hk.2.1⟩, hk.2.2⟩)) hg (.inl rfl)); have n4_ := Aside0.mk ((by rw [hw]; exact below_set (HB.out) GB57.out : Below w.heap.size w w60)); clear HO_6; clear HO_12; clear HO_13; clear HO_75; clear HB; have HO_6 := n0_; have HO_12 := n1_; have HO_13 := n2_; have HO_75 := n3_; have HB := n4_; clear n0_ n1_ n2_ n3_ n4_; clear hg hw hp_)))
                                              go_roundg k3
                                              case measure => have := HK1.out; have := HJ22.out; have := HK3.out; omega
                                              case rel => exact ⟨(y482), (wrap64 (x77_3 + 1)), (by first | rfl | (simp; done) | (simp [*]; done)), H', ⟨by have := HK1.out; have := HJ22.out; have := HK3.out; omega⟩, ⟨by (with_reducible repeat (first | apply Kd.R_alloc | apply Kd.R_drewN | apply Kd.R_drew)); exact Kd.R_mono HO_6.out (fun _ hk => ⟨hk.1.1, ⟨hk.2, hk.1.2⟩⟩)⟩, ⟨by (with_reducible repeat (first | apply Kd.R_alloc | apply Kd.R_drewN | apply Kd.R_drew)); exact Kd.R_mono HO_12.out (fun _ hk => ⟨hk.1.1, ⟨hk.2, hk.1.2⟩⟩)⟩, ⟨by (with_reducible repeat (first | apply Kd.R_alloc | apply Kd.R_drewN | apply Kd.R_drew)); exact HO_13.out⟩, ⟨by (with_reducible repeat (first | apply Kd.R_alloc | apply Kd.R_drewN | apply Kd.R_drew)); exact Kd.R_mono HO_75.out (fun _ hk => ⟨hk.1.1, ⟨hk.1.2, hk.2⟩⟩)⟩, ⟨by repeat (first | (with_reducible first | exact HB.out | apply below_alloc | apply pw_below_drewN | apply below_drew1) | exact HB.out)⟩⟩
                                            · rw [if_neg c56] at H
                                              exact absurd H (by simp)
                                          · rw [if_neg c55] at H
                                            exact absurd H (by simp)
                                        · rw [if_neg c54] at H
                                          have c54b0 : ((rd t470 (ji51)) == (rd t467 x77_3)) = false := beq_eq_false_iff_ne.mpr c54
                                          have c54b1 : ((rd t470 (ji51)) != (rd t467 x77_3)) = true := bne_iff_ne.mpr c54
                                          obtain rfl := Option.some.inj H
                                          have p480 : 0 ≤ (x77_3 : Int) := of_decide_eq_true (by first | (with_reducible assumption) | assumption)
                                          have q480 : x77_3 < (t467.length : Int) := of_decide_eq_true (by first | (with_reducible assumption) | assumption)
                                          obtain ⟨ad480, e480, hx480_0⟩ := Kd.at_int (Kd.R_reads' HO_75.out).2.2 x77_3 p480 q480
                                          cases e480
                                          replace p480 := eq_true p480
                                          replace q480 := eq_true q480
                                          obtain ⟨Ao61, co61, eo61⟩ := Kd.R_slice HO_12.out
                                          subst eo61
                                          have p481 : 0 ≤ ((ji51) : Int) := of_decide_eq_true (by first | (with_reducible assumption) | assumption)
                                          have q481 : (ji51) < (t470.length : Int) := of_decide_eq_true (by first | (with_reducible assumption) | assumption)
                                          obtain ⟨ad481, e481, hx481_0⟩ := Kd.at_int (Kd.R_reads' HO_12.out).2.2 (ji51) p481 q481
                                          cases e481
                                          replace p481 := eq_true p481
                                          replace q481 := eq_true q481
                                          go_wp2
                                          repeat (go_quiet (fail); try go_wp2)
                                          go_ret
                                          exact ⟨by first | rfl | (simp [errW_none, errW_some] <;> rfl) | (simp only [← hji4, ← hji51]; first | rfl | (simp [errW_none, errW_some] <;> rfl)) | (simp [*, errW_none, errW_some] <;> rfl), by repeat (first | (with_reducible first | exact HB.out | apply below_alloc | apply pw_below_drewN | apply below_drew1) | exact HB.out)⟩
                                      · rw [if_neg c53] at H
                                        exact absurd H (by simp)
                                    · rw [if_neg c52] at H
                                      exact absurd H (by simp)
                              · rw [if_neg c48] at H
                                exact absurd H (by simp)
                            · rw [if_neg c47] at H
                              exact absurd H (by simp)
                          · rw [if_neg c46] at H
                            have c46b0 : decide (x77_3 < (t467.length : Int)) = false := decide_eq_false c46
                            clear c46
                            have H' := Aside0.mk H
                            clear H
                            go_wp2
                            repeat (go_quiet (fail); try go_wp2)
                            go_loopg [16] k3 (fun kq v16 w' => ∃ (x16_4 : Int), v16 = .int .i64 x16_4 ∧ Aside0 (abugidalaw07_OrderPieces.l2 kq a1 t452 x6_1 x13_3 x16_4 = some r) ∧ Aside0 (kq ≤ k3) ∧ Aside0 (Kd.R (Kd.int .i64) 3 w' w.heap.size (fun k_ => some k_ ≠ (v478 : Value).ownBlock) (.slice Ao24 x6_1.length co24) x6_1) ∧ Aside0 (Kd.R (Kd.int .i64) 3 w' w.heap.size (fun k_ => some k_ ≠ ((.slice Ao24 x6_1.length co24) : Value).ownBlock) v478 x13_3) ∧ Aside0 (Below w.heap.size w w'))
                            case atStart => exact ⟨(0), (by first | rfl | (simp; done) | (simp [*]; done)), H', ⟨Nat.le_refl _⟩, ⟨by (with_reducible repeat (first | apply Kd.R_alloc | apply Kd.R_drewN | apply Kd.R_drew)); exact Kd.R_mono HO_6.out (fun _ hk => hk.2.1)⟩, ⟨by (with_reducible repeat (first | apply Kd.R_alloc | apply Kd.R_drewN | apply Kd.R_drew)); exact Kd.R_mono HO_13.out (fun _ hk => hk.1)⟩, ⟨by repeat (first | (with_reducible first | exact HB.out | apply below_alloc | apply pw_below_drewN | apply below_drew1) | exact HB.out)⟩⟩
                            case round =>
                              clear H'
                              try clear c1
                              try clear c2
                              try clear p2
                              try clear c4
                              try clear p4
                              try clear q4
                              try clear hx4
                              try clear c5
                              try clear c5b0
                              try clear c5b1
                              try clear p5
                              try clear q5
                              try clear hx5
                              try clear hf5
                              try clear c6
                              try clear c6b0
                              try clear c6b1
                              try clear p6
                              try clear c7
                              try clear c9
                              try clear c9b0
                              try clear c10
                              try clear c10b0
                              try clear c11
                              try clear c11b0
                              try clear c13
                              try clear c15
                              try clear c17
                              try clear c28
                              try clear c28b0
                              try clear c28b1
                              try clear c28b2
                              try clear c29
                              try clear c29b0
                              try clear c29b1
                              try clear c29b2
                              try clear c40
                              try clear c41
                              try clear c41b0
                              try clear c41b1
                              try clear c42
                              try clear c42b0
                              try clear c42b1
                              try clear p45
                              try clear q45
                              try clear hx45
                              try clear c46
                              try clear c46b0
                              try clear c47
                              try clear c47b0
                              try clear c48
                              try clear c48b0
                              try clear p48
                              try clear q48
                              try clear hx48
                              try clear c49
                              try clear c49b0
                              try clear c50
                              try clear c50b0
                              try clear c52
                              try clear c52b0
                              try clear c53
                              try clear c53b0
                              try clear c54
                              try clear c54b0
                              try clear c54b1
                              try clear c55
                              try clear c55b0
                              try clear c56
                              try clear c56b0
                              try clear p57
                              try clear q57
                              try clear hx57
                              try clear hf57
                              try clear hx454_0
                              try clear hx480_0
                              try clear hx481_0
                              try clear hx57_0
                              try clear p2
                              try clear p4
                              try clear p45
                              try clear p454
                              try clear p480
                              try clear p481
                              try clear p57
                              try clear p6
                              try clear q4
                              try clear q45
                              try clear q454
                              try clear q480
                              try clear q481
                              try clear q57
                              obtain ⟨x16_4, rfl, HA, HK4, HO_6, HO_13, HB⟩ := hrel
                              cases gk with
                              | zero => exact absurd HA.out (by simp [abugidalaw07_OrderPieces.l2])
                              | succ k4 =>
                                have H := HA.out
                                clear HA
                                simp only [abugidalaw07_OrderPieces.l2] at H
                                by_cases c62 : x16_4 < (x6_1.length : Int)
                                · rw [if_pos c62] at H
                                  have c62b0 : decide (x16_4 < (x6_1.length : Int)) = true := decide_eq_true c62
                                  clear c62
                                  by_cases c63 : 0 ≤ x16_4
                                  · rw [if_pos c63] at H
                                    have c63b0 : decide (0 ≤ x16_4) = true := decide_eq_true c63
                                    clear c63
                                    by_cases c64 : (rd x6_1 x16_4) < (Int.tmod (wrap64 (a1)) 9)
                                    · rw [if_pos c64] at H
                                      have c64b0 : decide ((rd x6_1 x16_4) < (Int.tmod (wrap64 (a1)) 9)) = true := decide_eq_true c64
                                      clear c64
                                      have H' := Aside0.mk H
                                      clear H
                                      have p483 : 0 ≤ (x16_4 : Int) := of_decide_eq_true (by first | (with_reducible assumption) | assumption)
                                      have q483 : x16_4 < (x6_1.length : Int) := of_decide_eq_true (by first | (with_reducible assumption) | assumption)
                                      obtain ⟨ad483, e483, hx483_0⟩ := Kd.at_int (Kd.R_reads' HO_6.out).2.2 x16_4 p483 q483
                                      cases e483
                                      replace p483 := eq_true p483
                                      replace q483 := eq_true q483
                                      go_wp2
                                      repeat (go_quiet (fail); try go_wp2)
                                      go_roundg k4
                                      case measure => have := HK1.out; have := HJ22.out; have := HK3.out; have := HK4.out; omega
                                      case rel => exact ⟨(wrap64 (x16_4 + 1)), (by first | rfl | (simp; done) | (simp [*]; done)), H', ⟨by have := HK1.out; have := HJ22.out; have := HK3.out; have := HK4.out; omega⟩, ⟨by (with_reducible repeat (first | apply Kd.R_alloc | apply Kd.R_drewN | apply Kd.R_drew)); exact HO_6.out⟩, ⟨by (with_reducible repeat (first | apply Kd.R_alloc | apply Kd.R_drewN | apply Kd.R_drew)); exact HO_13.out⟩, ⟨by repeat (first | (with_reducible first | exact HB.out | apply below_alloc | apply pw_below_drewN | apply below_drew1) | exact HB.out)⟩⟩
                                    · rw [if_neg c64] at H
                                      have c64b0 : decide ((rd x6_1 x16_4) < (Int.tmod (wrap64 (a1)) 9)) = false := decide_eq_false c64
                                      clear c64
                                      by_cases c65 : x16_4 < (x13_3.length : Int)
                                      · rw [if_pos c65] at H
                                        have c65b0 : decide (x16_4 < (x13_3.length : Int)) = true := decide_eq_true c65
                                        clear c65
                                        have H' := Aside0.mk H
                                        clear H
                                        have p483 : 0 ≤ (x16_4 : Int) := of_decide_eq_true (by first | (with_reducible assumption) | assumption)
                                        have q483 : x16_4 < (x6_1.length : Int) := of_decide_eq_true (by first | (with_reducible assumption) | assumption)
                                        obtain ⟨ad483, e483, hx483_0⟩ := Kd.at_int (Kd.R_reads' HO_6.out).2.2 x16_4 p483 q483
                                        cases e483
                                        replace p483 := eq_true p483
                                        replace q483 := eq_true q483
                                        obtain ⟨Ao66, co66, eo66⟩ := Kd.R_slice HO_13.out
                                        subst eo66
                                        have p484 : 0 ≤ (x16_4 : Int) := of_decide_eq_true (by first | (with_reducible assumption) | assumption)
                                        have q484 : x16_4 < (x13_3.length : Int) := of_decide_eq_true (by first | (with_reducible assumption) | assumption)
                                        obtain ⟨ad484, e484, hx484_0⟩ := Kd.at_int (Kd.R_reads' HO_13.out).2.2 x16_4 p484 q484
                                        cases e484
                                        replace p484 := eq_true p484
                                        replace q484 := eq_true q484
                                        have p485 : 0 ≤ (x16_4 : Int) := of_decide_eq_true (by first | (with_reducible assumption) | assumption)
                                        have q485 : x16_4 < (x13_3.length : Int) := of_decide_eq_true (by first | (with_reducible assumption) | assumption)
                                        obtain ⟨ad485, e485, hx485_0⟩ := Kd.at_int (Kd.R_reads' HO_13.out).2.2 x16_4 p485 q485
                                        obtain rfl : ad484 = ad485 := (by injection e485)
                                        replace p485 := eq_true p485
                                        replace q485 := eq_true q485
                                        go_wp2
                                        repeat (go_quiet (fail); try go_wp2)
                                        go_loopg [17, 18, 19] k4 (fun kq v17 v18 v19 w' => ∃ (x17_5 : Int) (x18_5 : Int) (x19_5 : Int), v17 = .int .i64 x17_5 ∧ v18 = .int .i64 x18_5 ∧ v19 = .int .i64 x19_5 ∧ Aside0 (abugidalaw07_OrderPieces.l3 kq a1 t452 x6_1 x13_3 x16_4 x17_5 x18_5 x19_5 = some r) ∧ Aside0 (kq ≤ k4) ∧ Aside0 (Kd.R (Kd.int .i64) 3 w' w.heap.size (fun k_ => some k_ ≠ ((.slice (some ad484) x13_3.length co66) : Value).ownBlock) (.slice (some ad483) x6_1.length co24) x6_1) ∧ Aside0 (Kd.R (Kd.int .i64) 3 w' w.heap.size (fun k_ => some k_ ≠ ((.slice (some ad483) x6_1.length co24) : Value).ownBlock) (.slice (some ad484) x13_3.length co66) x13_3) ∧ Aside0 (Below w.heap.size w w'))
                                        case atStart => exact ⟨(rd x13_3 x16_4), (rd x13_3 x16_4), (x16_4), (by first | rfl | (simp; done) | (simp [*]; done)), (by first | rfl | (simp; done) | (simp [*]; done)), (by first | rfl | (simp; done) | (simp [*]; done)), H', ⟨Nat.le_refl _⟩, ⟨by (with_reducible repeat (first | apply Kd.R_alloc | apply Kd.R_drewN | apply Kd.R_drew)); exact HO_6.out⟩, ⟨by (with_reducible repeat (first | apply Kd.R_alloc | apply Kd.R_drewN | apply Kd.R_drew)); exact HO_13.out⟩, ⟨by repeat (first | (with_reducible first | exact HB.out | apply below_alloc | apply pw_below_drewN | apply below_drew1) | exact HB.out)⟩⟩
                                        case round =>
                                          clear H'
                                          try clear c1
                                          try clear c2
                                          try clear p2
                                          try clear c4
                                          try clear p4
                                          try clear q4
                                          try clear hx4
                                          try clear c5
                                          try clear c5b0
                                          try clear c5b1
                                          try clear p5
                                          try clear q5
                                          try clear hx5
                                          try clear hf5
                                          try clear c6
                                          try clear c6b0
                                          try clear c6b1
                                          try clear p6
                                          try clear c7
                                          try clear c9
                                          try clear c9b0
                                          try clear c10
                                          try clear c10b0
                                          try clear c11
                                          try clear c11b0
                                          try clear c13
                                          try clear c15
                                          try clear c17
                                          try clear c28
                                          try clear c28b0
                                          try clear c28b1
                                          try clear c28b2
                                          try clear c29
                                          try clear c29b0
                                          try clear c29b1
                                          try clear c29b2
                                          try clear c40
                                          try clear c41
                                          try clear c41b0
                                          try clear c41b1
                                          try clear c42
                                          try clear c42b0
                                          try clear c42b1
                                          try clear p45
                                          try clear q45
                                          try clear hx45
                                          try clear c46
                                          try clear c46b0
                                          try clear c47
                                          try clear c47b0
                                          try clear c48
                                          try clear c48b0
                                          try clear p48
                                          try clear q48
                                          try clear hx48
                                          try clear c49
                                          try clear c49b0
                                          try clear c50
                                          try clear c50b0
                                          try clear c52
                                          try clear c52b0
                                          try clear c53
                                          try clear c53b0
                                          try clear c54
                                          try clear c54b0
                                          try clear c54b1
                                          try clear c55
                                          try clear c55b0
                                          try clear c56
                                          try clear c56b0
                                          try clear p57
                                          try clear q57
                                          try clear hx57
                                          try clear hf57
                                          try clear c62
                                          try clear c62b0
                                          try clear c63
                                          try clear c63b0
                                          try clear c64
                                          try clear c64b0
                                          try clear p64
                                          try clear c65
                                          try clear c65b0
                                          try clear hx454_0
                                          try clear hx480_0
                                          try clear hx481_0
                                          try clear hx483_0
                                          try clear hx484_0
                                          try clear hx485_0
                                          try clear hx57_0
                                          try clear p2
                                          try clear p4
                                          try clear p45
                                          try clear p454
                                          try clear p48
                                          try clear p480
                                          try clear p481
                                          try clear p483
                                          try clear p484
                                          try clear p485
                                          try clear p5
                                          try clear p57
                                          try clear p6
                                          try clear q4
                                          try clear q45
                                          try clear q454
                                          try clear q48
                                          try clear q480
                                          try clear q481
                                          try clear q483
                                          try clear q484
                                          try clear q485
                                          try clear q5
                                          try clear q57
                                          obtain ⟨x17_5, x18_5, x19_5, rfl, rfl, rfl, HA, HK5, HO_6, HO_13, HB⟩ := hrel
                                          cases gk with
                                          | zero => exact absurd HA.out (by simp [abugidalaw07_OrderPieces.l3])
                                          | succ k5 =>
                                            have H := HA.out
                                            clear HA
                                            simp only [abugidalaw07_OrderPieces.l3] at H
                                            by_cases c67 : x19_5 < (x6_1.length : Int)
                                            · rw [if_pos c67] at H
                                              have c67b0 : decide (x19_5 < (x6_1.length : Int)) = true := decide_eq_true c67
                                              clear c67
                                              by_cases c68 : 0 ≤ x19_5
                                              · rw [if_pos c68] at H
                                                have c68b0 : decide (0 ≤ x19_5) = true := decide_eq_true c68
                                                clear c68
                                                by_cases c69 : (rd x6_1 x19_5) ≥ (Int.tmod (wrap64 (a1)) 9)
                                                · rw [if_pos c69] at H
                                                  have c69b0 : decide ((Int.tmod (wrap64 (a1)) 9) ≤ (rd x6_1 x19_5)) = true := decide_eq_true c69
                                                  clear c69
                                                  by_cases c70 : x19_5 < (x13_3.length : Int)
                                                  · rw [if_pos c70] at H
                                                    have c70b0 : decide (x19_5 < (x13_3.length : Int)) = true := decide_eq_true c70
                                                    clear c70
                                                    obtain ⟨ji71, hji71⟩ : ∃ j_ : Int, (mn x17_5 (rd x13_3 x19_5)) = j_ := ⟨_, rfl⟩
                                                    replace H : (abugidalaw07_OrderPieces.l3 k5 a1 t452 x6_1 x13_3 x16_4 ji71 (mx x18_5 (rd x13_3 x19_5)) (wrap64 (x19_5 + 1))) = some r := by first | (rw [hji71] at H; exact H) | (simp only [hji71] at H ⊢; exact H)
                                                    have hji71_ : (if (rd x13_3 x19_5) < x17_5 then (rd x13_3 x19_5) else x17_5) = ji71 := hji71
                                                    obtain ⟨ji72, hji72⟩ : ∃ j_ : Int, (mx x18_5 (rd x13_3 x19_5)) = j_ := ⟨_, rfl⟩
                                                    replace H : (abugidalaw07_OrderPieces.l3 k5 a1 t452 x6_1 x13_3 x16_4 ji71 ji72 (wrap64 (x19_5 + 1))) = some r := by first | (rw [hji72] at H; exact H) | (simp only [hji72] at H ⊢; exact H)
                                                    have hji72_ : (if x18_5 < (rd x13_3 x19_5) then (rd x13_3 x19_5) else x18_5) = ji72 := hji72
                                                    have H' := Aside0.mk H
                                                    clear H
                                                    have p486 : 0 ≤ (x19_5 : Int) := of_decide_eq_true (by first | (with_reducible assumption) | assumption)
                                                    have q486 : x19_5 < (x6_1.length : Int) := of_decide_eq_true (by first | (with_reducible assumption) | assumption)
                                                    obtain ⟨ad486, e486, hx486_0⟩ := Kd.at_int (Kd.R_reads' HO_6.out).2.2 x19_5 p486 q486
                                                    obtain rfl : ad483 = ad486 := (by injection e486)
                                                    replace p486 := eq_true p486
                                                    replace q486 := eq_true q486
                                                    have p487 : 0 ≤ (x19_5 : Int) := of_decide_eq_true (by first | (with_reducible assumption) | assumption)
                                                    have q487 : x19_5 < (x13_3.length : Int) := of_decide_eq_true (by first | (with_reducible assumption) | assumption)
                                                    obtain ⟨ad487, e487, hx487_0⟩ := Kd.at_int (Kd.R_reads' HO_13.out).2.2 x19_5 p487 q487
                                                    obtain rfl : ad484 = ad487 := (by injection e487)
                                                    replace p487 := eq_true p487
                                                    replace q487 := eq_true q487
                                                    have p488 : 0 ≤ (x19_5 : Int) := of_decide_eq_true (by first | (with_reducible assumption) | assumption)
                                                    have q488 : x19_5 < (x13_3.length : Int) := of_decide_eq_true (by first | (with_reducible assumption) | assumption)
                                                    obtain ⟨ad488, e488, hx488_0⟩ := Kd.at_int (Kd.R_reads' HO_13.out).2.2 x19_5 p488 q488
                                                    obtain rfl : ad484 = ad488 := (by injection e488)
                                                    replace p488 := eq_true p488
                                                    replace q488 := eq_true q488
                                                    go_wp2
                                                    repeat (go_quiet (fail); try go_wp2)
                                                    go_roundg k5
                                                    case measure => have := HK1.out; have := HJ22.out; have := HK3.out; have := HK4.out; have := HK5.out; omega
                                                    case rel => exact ⟨(ji71), (ji72), (wrap64 (x19_5 + 1)), (by first | rfl | (simp; done) | (simp only [← hji71] <;> (first | rfl | simp)) | (simp [*]; done)), (by first | rfl | (simp; done) | (simp only [← hji72] <;> (first | rfl | simp)) | (simp [*]; done)), (by first | rfl | (simp; done) | (simp [*]; done)), H', ⟨by have := HK1.out; have := HJ22.out; have := HK3.out; have := HK4.out; have := HK5.out; omega⟩, ⟨by (with_reducible repeat (first | apply Kd.R_alloc | apply Kd.R_drewN | apply Kd.R_drew)); exact HO_6.out⟩, ⟨by (with_reducible repeat (first | apply Kd.R_alloc | apply Kd.R_drewN | apply Kd.R_drew)); exact HO_13.out⟩, ⟨by repeat (first | (with_reducible first | exact HB.out | apply below_alloc | apply pw_below_drewN | apply below_drew1) | exact HB.out)⟩⟩
                                                  · rw [if_neg c70] at H
                                                    exact absurd H (by simp)
                                                · rw [if_neg c69] at H
                                                  have c69b0 : decide ((Int.tmod (wrap64 (a1)) 9) ≤ (rd x6_1 x19_5)) = false := decide_eq_false c69
                                                  clear c69
                                                  by_cases c73 : (wrap64 (x18_5 - x17_5)) = (wrap64 ((wrap64 (x19_5 - 1)) - x16_4))
                                                  · rw [if_pos c73] at H
                                                    have c73b0 : ((wrap64 (x18_5 - x17_5)) == (wrap64 ((wrap64 (x19_5 - 1)) - x16_4))) = true := beq_iff_eq.mpr c73
                                                    have c73b1 : ((wrap64 (x18_5 - x17_5)) != (wrap64 ((wrap64 (x19_5 - 1)) - x16_4))) = false := bne_eq_false_iff_eq.mpr c73
                                                    clear c73
                                                    have H' := Aside0.mk H
                                                    clear H
                                                    have p486 : 0 ≤ (x19_5 : Int) := of_decide_eq_true (by first | (with_reducible assumption) | assumption)
                                                    have q486 : x19_5 < (x6_1.length : Int) := of_decide_eq_true (by first | (with_reducible assumption) | assumption)
                                                    obtain ⟨ad486, e486, hx486_0⟩ := Kd.at_int (Kd.R_reads' HO_6.out).2.2 x19_5 p486 q486
                                                    obtain rfl : ad483 = ad486 := (by injection e486)
                                                    replace p486 := eq_true p486
                                                    replace q486 := eq_true q486
                                                    go_wp2
                                                    repeat (go_quiet (fail); try go_wp2)
                                                    go_roundg k5
                                                    case measure => have := HK1.out; have := HJ22.out; have := HK3.out; have := HK4.out; have := HK5.out; omega
                                                    case rel => exact ⟨(wrap64 (x19_5 + 1)), (by first | rfl | (simp; done) | (simp [*]; done)), H', ⟨by have := HK1.out; have := HJ22.out; have := HK3.out; have := HK4.out; have := HK5.out; omega⟩, ⟨by (with_reducible repeat (first | apply Kd.R_alloc | apply Kd.R_drewN | apply Kd.R_drew)); exact HO_6.out⟩, ⟨by (with_reducible repeat (first | apply Kd.R_alloc | apply Kd.R_drewN | apply Kd.R_drew)); exact HO_13.out⟩, ⟨by repeat (first | (with_reducible first | exact HB.out | apply below_alloc | apply pw_below_drewN | apply below_drew1) | exact HB.out)⟩⟩
                                                  · rw [if_neg c73] at H
                                                    have c73b0 : ((wrap64 (x18_5 - x17_5)) == (wrap64 ((wrap64 (x19_5 - 1)) - x16_4))) = false := beq_eq_false_iff_ne.mpr c73
                                                    have c73b1 : ((wrap64 (x18_5 - x17_5)) != (wrap64 ((wrap64 (x19_5 - 1)) - x16_4))) = true := bne_iff_ne.mpr c73
                                                    obtain rfl := Option.some.inj H
                                                    have p486 : 0 ≤ (x19_5 : Int) := of_decide_eq_true (by first | (with_reducible assumption) | assumption)
                                                    have q486 : x19_5 < (x6_1.length : Int) := of_decide_eq_true (by first | (with_reducible assumption) | assumption)
                                                    obtain ⟨ad486, e486, hx486_0⟩ := Kd.at_int (Kd.R_reads' HO_6.out).2.2 x19_5 p486 q486
                                                    obtain rfl : ad483 = ad486 := (by injection e486)
                                                    replace p486 := eq_true p486
                                                    replace q486 := eq_true q486
                                                    go_wp2
                                                    repeat (go_quiet (fail); try go_wp2)
                                                    go_ret
                                                    exact ⟨by first | rfl | (simp [errW_none, errW_some] <;> rfl) | (simp only [← hji4]; first | rfl | (simp [errW_none, errW_some] <;> rfl)) | (simp [*, errW_none, errW_some] <;> rfl), by repeat (first | (with_reducible first | exact HB.out | apply below_alloc | apply pw_below_drewN | apply below_drew1) | exact HB.out)⟩
                                              · rw [if_neg c68] at H
                                                exact absurd H (by simp)
                                            · rw [if_neg c67] at H
                                              have c67b0 : decide (x19_5 < (x6_1.length : Int)) = false := decide_eq_false c67
                                              clear c67
                                              by_cases c74 : (wrap64 (x18_5 - x17_5)) = (wrap64 ((wrap64 (x19_5 - 1)) - x16_4))
                                              · rw [if_pos c74] at H
                                                have c74b0 : ((wrap64 (x18_5 - x17_5)) == (wrap64 ((wrap64 (x19_5 - 1)) - x16_4))) = true := beq_iff_eq.mpr c74
                                                have c74b1 : ((wrap64 (x18_5 - x17_5)) != (wrap64 ((wrap64 (x19_5 - 1)) - x16_4))) = false := bne_eq_false_iff_eq.mpr c74
                                                clear c74
                                                have H' := Aside0.mk H
                                                clear H
                                                go_wp2
                                                repeat (go_quiet (fail); try go_wp2)
                                                go_roundg k5
                                                case measure => have := HK1.out; have := HJ22.out; have := HK3.out; have := HK4.out; have := HK5.out; omega
                                                case rel => exact ⟨(wrap64 (x19_5 + 1)), (by first | rfl | (simp; done) | (simp [*]; done)), H', ⟨by have := HK1.out; have := HJ22.out; have := HK3.out; have := HK4.out; have := HK5.out; omega⟩, ⟨by (with_reducible repeat (first | apply Kd.R_alloc | apply Kd.R_drewN | apply Kd.R_drew)); exact HO_6.out⟩, ⟨by (with_reducible repeat (first | apply Kd.R_alloc | apply Kd.R_drewN | apply Kd.R_drew)); exact HO_13.out⟩, ⟨by repeat (first | (with_reducible first | exact HB.out | apply below_alloc | apply pw_below_drewN | apply below_drew1) | exact HB.out)⟩⟩
                                              · rw [if_neg c74] at H
                                                have c74b0 : ((wrap64 (x18_5 - x17_5)) == (wrap64 ((wrap64 (x19_5 - 1)) - x16_4))) = false := beq_eq_false_iff_ne.mpr c74
                                                have c74b1 : ((wrap64 (x18_5 - x17_5)) != (wrap64 ((wrap64 (x19_5 - 1)) - x16_4))) = true := bne_iff_ne.mpr c74
                                                obtain rfl := Option.some.inj H
                                                go_wp2
                                                repeat (go_quiet (fail); try go_wp2)
                                                go_ret
                                                exact ⟨by first | rfl | (simp [errW_none, errW_some] <;> rfl) | (simp only [← hji4]; first | rfl | (simp [errW_none, errW_some] <;> rfl)) | (simp [*, errW_none, errW_some] <;> rfl), by repeat (first | (with_reducible first | exact HB.out | apply below_alloc | apply pw_below_drewN | apply below_drew1) | exact HB.out)⟩
                                      · rw [if_neg c65] at H
                                        exact absurd H (by simp)
                                  · rw [if_neg c63] at H
                                    exact absurd H (by simp)
                                · rw [if_neg c62] at H
                                  have c62b0 : decide (x16_4 < (x6_1.length : Int)) = false := decide_eq_false c62
                                  clear c62
                                  obtain rfl := Option.some.inj H
                                  go_wp2
                                  repeat (go_quiet (fail); try go_wp2)
                                  go_ret
                                  exact ⟨by first | rfl | (simp [errW_none, errW_some] <;> rfl) | (simp only [← hji4]; first | rfl | (simp [errW_none, errW_some] <;> rfl)) | (simp [*, errW_none, errW_some] <;> rfl), by repeat (first | (with_reducible first | exact HB.out | apply below_alloc | apply pw_below_drewN | apply below_drew1) | exact HB.out)⟩
                    · rw [if_neg c42] at H
                      exact absurd H (by simp)
                  · rw [if_neg c41] at H
                    exact absurd H (by simp)
    · rw [if_neg c6] at H
      exact absurd H (by simp)
  · rw [if_neg c5] at H
    exact absurd H (by simp)

/-- THE ONE PURE STATEMENT of abugidalaw07_OrderPieces: yours. -/
def abugidalaw07_OrderPieces.Pure : Prop := ∀ (l0 : List Int) (a1 : Int), l0.length ≤ maxLen → l0.length * 8 ≤ 140737488351232 → (∀ x ∈ l0, (Lit.int .i64 x).wf = true) → (Lit.int .u8 a1).wf = true → ∃ k, abugidalaw07_OrderPieces.f k l0 a1 = some true
theorem abugidalaw07_OrderPieces.walk (P : abugidalaw07_OrderPieces.Pure) (a0 : Option Addr) (len0 cap0 : Nat) (z0 : List Int) (a1 : Int) (w : World) (w0 : (a0 = none ∧ len0 = 0 ∧ cap0 = 0 ∧ z0 = []) ∨ ∃ x, a0 = some x ∧ len0 ≤ cap0 ∧ cap0 ≤ maxLen ∧ z0.length = cap0 ∧ (∀ i, i < z0.length → w.cell? (x.add i) = some (.int .i64 (z0.getD i 0))) ∧ ∀ n ∈ z0, (Lit.int .i64 n).wf = true) (y0 : len0 * 8 ≤ 140737488351232) (w1 : (Lit.int .u8 a1).wf = true) :
    Calls Try.prog 7 #[.slice a0 len0 cap0, .int .u8 a1] w fun e w' => e = .returned (.bool true) ∧ Below w.heap.size w w' := by
  obtain ⟨l0, rfl, hr0, hm0, hw0, hc0⟩ := ReadsInt.ofRowC w0
  obtain ⟨k, h⟩ := P l0 a1 hm0 y0 hw0 w1
  refine (abugidalaw07_OrderPieces.calls k _ _ l0 a1 true w (Kd.C_of_reads (d := (0 : Int)) (h1 := fun _ => rfl) hr0) hc0 h).mono ?_
  rintro e w' ⟨rfl, hd⟩
  exact ⟨rfl, hd⟩

end Go.Proofs.Ytacnckneiklgpaa.Q

-- Written by wip/tools/myprint.py, a program of this session that drives the kit's print.py; not a text of print.sh.
import Derived.Test.YtgpdieogkcnfeaaQx0
import Derived.Test.YtgpdieogkcnfeaaQx2
import Derived.Test.YtgpdieogkcnfeaaQx3
import Derived.Test.YtgpdieogkcnfeaaQx7
import Derived.Test.YtgpdieogkcnfeaaQx9
namespace Go.Proofs.Ytgpdieogkcnfeaa.Q
open Go.RowKit Go.Proofs.YtgpdieogkcnfeaaW.PrintWords Go.Proofs.YtgpdieogkcnfeaaW.PrintLast Go.Proofs.YtgpdieogkcnfeaaW.PrintMore
attribute [local go_sem] max2_int min2_int max_two min_two max_three min_three max_four min_four   -- for this text's walks alone
set_option linter.unusedVariables false
set_option linter.unusedSimpArgs false

/-! ### abugidalaw17_FormsPlaces: function 8 -/
mutual
def abugidalaw17_FormsPlaces.l0 : Nat → Bool → ByteArray → List (S29) → Int → Option (Bool)
  | 0, _, _, _, _ => none
  | k + 1, x3, x4, x5, x6 => if x6 < (x5.length : Int) then (if 0 ≤ x6 then ((forms_Order.f k x4 ((rd_T29 x5 x6).f0) ((rd_T29 x5 x6).f1)).bind fun t468 => (abugidalaw17_FormsPlaces.l1 k x3 x4 x5 x6 t468 0 ((rd_T29 x5 x6).f0))) else (none)) else (some x3)
def abugidalaw17_FormsPlaces.l1 : Nat → Bool → ByteArray → List (S29) → Int → List Int → Int → Int → Option (Bool)
  | 0, _, _, _, _, _, _, _ => none
  | k + 1, x3, x4, x5, x6, x7, x8, x9 => if 0 ≤ x6 then (if x6 < (x5.length : Int) then (if x9 < ((rd_T29 x5 x6).f1) then (if 0 ≤ x9 then (if x9 < (x4.size : Int) then ((chars_Class.f k (wrap64 (bt x4 x9))).bind fun t473 => (abugidalaw17_FormsPlaces.l2 k x3 x4 x5 x6 x7 x8 x9 t473 0 0)) else (none)) else (none)) else (if x8 = (x7.length : Int) then (abugidalaw17_FormsPlaces.l3 k x3 x4 x5 x6 x7 1) else (some false))) else (none)) else (none)
def abugidalaw17_FormsPlaces.l2 : Nat → Bool → ByteArray → List (S29) → Int → List Int → Int → Int → Int → Int → Int → Option (Bool)
  | 0, _, _, _, _, _, _, _, _, _, _ => none
  | k + 1, x3, x4, x5, x6, x7, x8, x9, x10, x11, x12 => if x12 < (x7.length : Int) then (if 0 ≤ x12 then (if (rd x7 x12) = x9 then (abugidalaw17_FormsPlaces.l2 k x3 x4 x5 x6 x7 x8 x9 x10 (wrap64 (x11 + 1)) (wrap64 (x12 + 1))) else (abugidalaw17_FormsPlaces.l2 k x3 x4 x5 x6 x7 x8 x9 x10 x11 (wrap64 (x12 + 1)))) else (none)) else (if x10 = 13 then (if x11 = 0 then (abugidalaw17_FormsPlaces.l1 k x3 x4 x5 x6 x7 (wrap64 (x8 + x11)) (wrap64 (x9 + 1))) else (some false)) else (if x10 = 14 then (if x11 = 0 then (abugidalaw17_FormsPlaces.l1 k x3 x4 x5 x6 x7 (wrap64 (x8 + x11)) (wrap64 (x9 + 1))) else (some false)) else (if x11 = 1 then (abugidalaw17_FormsPlaces.l1 k x3 x4 x5 x6 x7 (wrap64 (x8 + x11)) (wrap64 (x9 + 1))) else (some false))))
def abugidalaw17_FormsPlaces.l3 : Nat → Bool → ByteArray → List (S29) → Int → List Int → Int → Option (Bool)
  | 0, _, _, _, _, _, _ => none
  | k + 1, x3, x4, x5, x6, x7, x14 => if x14 < (x7.length : Int) then (if 0 ≤ (wrap64 (x14 - 1)) then (if (wrap64 (x14 - 1)) < (x7.length : Int) then (if 0 ≤ (rd x7 (wrap64 (x14 - 1))) then (if (rd x7 (wrap64 (x14 - 1))) < (x4.size : Int) then ((chars_Class.f k (wrap64 (bt x4 (rd x7 (wrap64 (x14 - 1)))))).bind fun t476 => (if 0 ≤ x14 then (if 0 ≤ (rd x7 x14) then (if (rd x7 x14) < (x4.size : Int) then ((chars_Class.f k (wrap64 (bt x4 (rd x7 x14)))).bind fun t478 => (if t478 = 12 then (if t476 = 12 then (if ((t476 == 12) == (t478 == 12)) = true then (if (rd x7 (wrap64 (x14 - 1))) ≥ (rd x7 x14) then (some false) else (abugidalaw17_FormsPlaces.l3 k x3 x4 x5 x6 x7 (wrap64 (x14 + 1)))) else (abugidalaw17_FormsPlaces.l3 k x3 x4 x5 x6 x7 (wrap64 (x14 + 1)))) else (some false)) else (if ((t476 == 12) == (t478 == 12)) = true then (if (rd x7 (wrap64 (x14 - 1))) ≥ (rd x7 x14) then (some false) else (abugidalaw17_FormsPlaces.l3 k x3 x4 x5 x6 x7 (wrap64 (x14 + 1)))) else (abugidalaw17_FormsPlaces.l3 k x3 x4 x5 x6 x7 (wrap64 (x14 + 1)))))) else (none)) else (none)) else (none))) else (none)) else (none)) else (none)) else (none)) else (abugidalaw17_FormsPlaces.l0 k x3 x4 x5 (wrap64 (x6 + 1)))
end
def abugidalaw17_FormsPlaces.f (k : Nat) (l0 : List Int) : Option (Bool) := (abugidalaw17_sanity.f k).bind fun t462 => ((abugidaref05_Text.f k l0 60).bind fun t463 => ((cluster_Split.f t463).bind fun t464 => (abugidalaw17_FormsPlaces.l0 k t462 t463 t464 0)))
theorem abugidalaw17_FormsPlaces.mono_l : ∀ k, (∀ y0 y1 y2 y3, LeO (abugidalaw17_FormsPlaces.l0 k y0 y1 y2 y3) (abugidalaw17_FormsPlaces.l0 (k + 1) y0 y1 y2 y3)) ∧ (∀ y0 y1 y2 y3 y4 y5 y6, LeO (abugidalaw17_FormsPlaces.l1 k y0 y1 y2 y3 y4 y5 y6) (abugidalaw17_FormsPlaces.l1 (k + 1) y0 y1 y2 y3 y4 y5 y6)) ∧ (∀ y0 y1 y2 y3 y4 y5 y6 y7 y8 y9, LeO (abugidalaw17_FormsPlaces.l2 k y0 y1 y2 y3 y4 y5 y6 y7 y8 y9) (abugidalaw17_FormsPlaces.l2 (k + 1) y0 y1 y2 y3 y4 y5 y6 y7 y8 y9)) ∧ (∀ y0 y1 y2 y3 y4 y5, LeO (abugidalaw17_FormsPlaces.l3 k y0 y1 y2 y3 y4 y5) (abugidalaw17_FormsPlaces.l3 (k + 1) y0 y1 y2 y3 y4 y5))
  | 0 => ⟨fun _ _ _ _ r h => by simp [abugidalaw17_FormsPlaces.l0] at h, fun _ _ _ _ _ _ _ r h => by simp [abugidalaw17_FormsPlaces.l1] at h, fun _ _ _ _ _ _ _ _ _ _ r h => by simp [abugidalaw17_FormsPlaces.l2] at h, fun _ _ _ _ _ _ r h => by simp [abugidalaw17_FormsPlaces.l3] at h⟩
  | k + 1 => by
    obtain ⟨ih0, ih1, ih2, ih3⟩ := abugidalaw17_FormsPlaces.mono_l k
    refine ⟨?_, ?_, ?_, ?_⟩
    · intro y0 y1 y2 y3
      unfold abugidalaw17_FormsPlaces.l0
      repeat' first
      | (with_reducible exact ih0 _ _ _ _)
      | (with_reducible exact ih1 _ _ _ _ _ _ _)
      | (with_reducible exact ih2 _ _ _ _ _ _ _ _ _ _)
      | (with_reducible exact ih3 _ _ _ _ _ _)
      | (with_reducible exact abugidalaw17_sanity.mono _)
      | (with_reducible exact abugidaref05_Text.mono _ _ _)
      | (with_reducible exact chars_Class.mono _ _)
      | (with_reducible exact forms_Order.mono _ _ _ _)
      | (with_reducible exact LeO.refl _)
      | (with_reducible exact LeO.none _)
      | (with_reducible refine LeO.ite ?_ ?_)
      | (with_reducible refine LeO.bind ?_ (fun _ => ?_))
      | exact ih0 _ _ _ _
      | exact ih1 _ _ _ _ _ _ _
      | exact ih2 _ _ _ _ _ _ _ _ _ _
      | exact ih3 _ _ _ _ _ _
      | exact abugidalaw17_sanity.mono _
      | exact abugidaref05_Text.mono _ _ _
      | exact chars_Class.mono _ _
      | exact forms_Order.mono _ _ _ _
      | exact LeO.none _
      | refine LeO.ite ?_ ?_
      | refine LeO.bind ?_ (fun _ => ?_)
    · intro y0 y1 y2 y3 y4 y5 y6
      unfold abugidalaw17_FormsPlaces.l1
      repeat' first
      | (with_reducible exact ih0 _ _ _ _)
      | (with_reducible exact ih1 _ _ _ _ _ _ _)
      | (with_reducible exact ih2 _ _ _ _ _ _ _ _ _ _)
      | (with_reducible exact ih3 _ _ _ _ _ _)
      | (with_reducible exact abugidalaw17_sanity.mono _)
      | (with_reducible exact abugidaref05_Text.mono _ _ _)
      | (with_reducible exact chars_Class.mono _ _)
      | (with_reducible exact forms_Order.mono _ _ _ _)
      | (with_reducible exact LeO.refl _)
      | (with_reducible exact LeO.none _)
      | (with_reducible refine LeO.ite ?_ ?_)
      | (with_reducible refine LeO.bind ?_ (fun _ => ?_))
      | exact ih0 _ _ _ _
      | exact ih1 _ _ _ _ _ _ _
      | exact ih2 _ _ _ _ _ _ _ _ _ _
      | exact ih3 _ _ _ _ _ _
      | exact abugidalaw17_sanity.mono _
      | exact abugidaref05_Text.mono _ _ _
      | exact chars_Class.mono _ _
      | exact forms_Order.mono _ _ _ _
      | exact LeO.none _
      | refine LeO.ite ?_ ?_
      | refine LeO.bind ?_ (fun _ => ?_)
    · intro y0 y1 y2 y3 y4 y5 y6 y7 y8 y9
      unfold abugidalaw17_FormsPlaces.l2
      repeat' first
      | (with_reducible exact ih0 _ _ _ _)
      | (with_reducible exact ih1 _ _ _ _ _ _ _)
      | (with_reducible exact ih2 _ _ _ _ _ _ _ _ _ _)
      | (with_reducible exact ih3 _ _ _ _ _ _)
      | (with_reducible exact abugidalaw17_sanity.mono _)
      | (with_reducible exact abugidaref05_Text.mono _ _ _)
      | (with_reducible exact chars_Class.mono _ _)
      | (with_reducible exact forms_Order.mono _ _ _ _)
      | (with_reducible exact LeO.refl _)
      | (with_reducible exact LeO.none _)
      | (with_reducible refine LeO.ite ?_ ?_)
      | (with_reducible refine LeO.bind ?_ (fun _ => ?_))
      | exact ih0 _ _ _ _
      | exact ih1 _ _ _ _ _ _ _
      | exact ih2 _ _ _ _ _ _ _ _ _ _
      | exact ih3 _ _ _ _ _ _
      | exact abugidalaw17_sanity.mono _
      | exact abugidaref05_Text.mono _ _ _
      | exact chars_Class.mono _ _
      | exact forms_Order.mono _ _ _ _
      | exact LeO.none _
      | refine LeO.ite ?_ ?_
      | refine LeO.bind ?_ (fun _ => ?_)
    · intro y0 y1 y2 y3 y4 y5
      unfold abugidalaw17_FormsPlaces.l3
      repeat' first
      | (with_reducible exact ih0 _ _ _ _)
      | (with_reducible exact ih1 _ _ _ _ _ _ _)
      | (with_reducible exact ih2 _ _ _ _ _ _ _ _ _ _)
      | (with_reducible exact ih3 _ _ _ _ _ _)
      | (with_reducible exact abugidalaw17_sanity.mono _)
      | (with_reducible exact abugidaref05_Text.mono _ _ _)
      | (with_reducible exact chars_Class.mono _ _)
      | (with_reducible exact forms_Order.mono _ _ _ _)
      | (with_reducible exact LeO.refl _)
      | (with_reducible exact LeO.none _)
      | (with_reducible refine LeO.ite ?_ ?_)
      | (with_reducible refine LeO.bind ?_ (fun _ => ?_))
      | exact ih0 _ _ _ _
      | exact ih1 _ _ _ _ _ _ _
      | exact ih2 _ _ _ _ _ _ _ _ _ _
      | exact ih3 _ _ _ _ _ _
      | exact abugidalaw17_sanity.mono _
      | exact abugidaref05_Text.mono _ _ _
      | exact chars_Class.mono _ _
      | exact forms_Order.mono _ _ _ _
      | exact LeO.none _
      | refine LeO.ite ?_ ?_
      | refine LeO.bind ?_ (fun _ => ?_)
theorem abugidalaw17_FormsPlaces.mono : ∀ a0 k, LeO (abugidalaw17_FormsPlaces.f k a0) (abugidalaw17_FormsPlaces.f (k + 1) a0) := by
  intro a0 k
  obtain ⟨ih0, ih1, ih2, ih3⟩ := abugidalaw17_FormsPlaces.mono_l k
  unfold abugidalaw17_FormsPlaces.f
  repeat' first
      | (with_reducible exact ih0 _ _ _ _)
      | (with_reducible exact ih1 _ _ _ _ _ _ _)
      | (with_reducible exact ih2 _ _ _ _ _ _ _ _ _ _)
      | (with_reducible exact ih3 _ _ _ _ _ _)
      | (with_reducible exact abugidalaw17_sanity.mono _)
      | (with_reducible exact abugidaref05_Text.mono _ _ _)
      | (with_reducible exact chars_Class.mono _ _)
      | (with_reducible exact forms_Order.mono _ _ _ _)
      | (with_reducible exact LeO.refl _)
      | (with_reducible exact LeO.none _)
      | (with_reducible refine LeO.ite ?_ ?_)
      | (with_reducible refine LeO.bind ?_ (fun _ => ?_))
      | exact ih0 _ _ _ _
      | exact ih1 _ _ _ _ _ _ _
      | exact ih2 _ _ _ _ _ _ _ _ _ _
      | exact ih3 _ _ _ _ _ _
      | exact abugidalaw17_sanity.mono _
      | exact abugidaref05_Text.mono _ _ _
      | exact chars_Class.mono _ _
      | exact forms_Order.mono _ _ _ _
      | exact LeO.none _
      | refine LeO.ite ?_ ?_
      | refine LeO.bind ?_ (fun _ => ?_)
set_option maxHeartbeats 8000000 in
set_option maxRecDepth 100000 in
theorem abugidalaw17_FormsPlaces.calls (k : Nat) (A0 : Option Addr) (c0 : Nat) (l0 : List Int) (r : Bool) (w : World) (hr0 : Kd.C (Kd.int .i64) w A0 l0.length l0) (hc0 : l0.length ≤ c0) (h : abugidalaw17_FormsPlaces.f k l0 = some r) :
    Calls Try.prog 8 #[.slice A0 l0.length c0] w fun e w' => e = .returned (.bool r) ∧ Below w.heap.size w w' := by
  have hu29 := Try.underlying29
  have HR0 := Aside0.mk hr0
  have HC0 := Aside0.mk hc0
  clear hr0 hc0
  have HB := Aside0.mk (Below.refl w.heap.size w)
  have H : ((abugidalaw17_sanity.f k).bind fun t462 => ((abugidaref05_Text.f k l0 60).bind fun t463 => ((cluster_Split.f t463).bind fun t464 => (abugidalaw17_FormsPlaces.l0 k t462 t463 t464 0)))) = some r := h
  clear h
  replace H := Option.bind_eq_some_iff.mp H
  obtain ⟨t462, A20, H⟩ := H
  replace H : ((abugidaref05_Text.f k l0 60).bind fun t463 => ((cluster_Split.f t463).bind fun t464 => (abugidalaw17_FormsPlaces.l0 k t462 t463 t464 0))) = some r := H
  have A2 := Aside0.mk A20
  clear A20
  replace H := Option.bind_eq_some_iff.mp H
  obtain ⟨t463, A30, H⟩ := H
  replace H : ((cluster_Split.f t463).bind fun t464 => (abugidalaw17_FormsPlaces.l0 k t462 t463 t464 0)) = some r := H
  have A3 := Aside0.mk A30
  clear A30
  replace H := Option.bind_eq_some_iff.mp H
  obtain ⟨t464, A40, H⟩ := H
  replace H : (abugidalaw17_FormsPlaces.l0 k t462 t463 t464 0) = some r := H
  have A4 := Aside0.mk A40
  clear A40
  have H' := Aside0.mk H
  clear H
  go_enter Try.func8, Try.ntmps8
  go_wp2_with (first | (go_at_call 9; (with_reducible refine (abugidalaw17_sanity.calls k  t462 _ A2.out).mono ?_); rintro e w5 ⟨rfl, hb⟩; have n0_ := Aside0.mk (below_step (by repeat (first | (with_reducible first | exact HB.out | apply below_alloc | apply pw_below_drewN | apply below_drew1) | exact HB.out)) hb); clear HB; have HB := n0_; clear n0_; (try clear hb); (try clear hb2); (try clear hk); (try clear hi)) | (go_at_call 10; (with_reducible refine (abugidaref05_Text.calls k _ _ l0 60 t463 _ ?side1 ?side2 A3.out).mono ?_); (case side1 => repeat (first | exact (Kd.C_below HR0.out HB.out) | (with_reducible refine Kd.C_alloc ?_ _) | (with_reducible refine Kd.C_drewN ?_ _) | (with_reducible refine Kd.C_drew ?_))); (case side2 => exact HC0.out); rintro e w6 ⟨rfl, hb⟩; have n0_ := Aside0.mk (below_step (by repeat (first | (with_reducible first | exact HB.out | apply below_alloc | apply pw_below_drewN | apply below_drew1) | exact HB.out)) hb); clear HB; have HB := n0_; clear n0_; (try clear hb); (try clear hb2); (try clear hk); (try clear hi)) | (go_at_call 14; (with_reducible refine (cluster_Split.calls t463 t464 _ A4.out).mono ?_); rintro e w7 ⟨v465, rfl, ho0, hb⟩; have n0_ := Aside0.mk (Kd.R_lower ho0 (below_size (by repeat (first | (with_reducible first | exact HB.out | apply below_alloc | apply pw_below_drewN | apply below_drew1) | exact HB.out)))); have n1_ := Aside0.mk (below_step (by repeat (first | (with_reducible first | exact HB.out | apply below_alloc | apply pw_below_drewN | apply below_drew1) | exact HB.out)) hb); clear HB; have HO466 := n0_; have HB := n1_; clear n0_ n1_; (try clear hb); (try clear hb2); (try clear hk); (try clear hi); (try clear ho0)))
  repeat (go_quiet (first | (go_at_call 9; (with_reducible refine (abugidalaw17_sanity.calls k  t462 _ A2.out).mono ?_); rintro e w5 ⟨rfl, hb⟩; have n0_ := Aside0.mk (below_step (by repeat (first | (with_reducible first | exact HB.out | apply below_alloc | apply pw_below_drewN | apply below_drew1) | exact HB.out)) hb); clear HB; have HB := n0_; clear n0_; (try clear hb); (try clear hb2); (try clear hk); (try clear hi)) | (go_at_call 10; (with_reducible refine (abugidaref05_Text.calls k _ _ l0 60 t463 _ ?side1 ?side2 A3.out).mono ?_); (case side1 => repeat (first | exact (Kd.C_below HR0.out HB.out) | (with_reducible refine Kd.C_alloc ?_ _) | (with_reducible refine Kd.C_drewN ?_ _) | (with_reducible refine Kd.C_drew ?_))); (case side2 => exact HC0.out); rintro e w6 ⟨rfl, hb⟩; have n0_ := Aside0.mk (below_step (by repeat (first | (with_reducible first | exact HB.out | apply below_alloc | apply pw_below_drewN | apply below_drew1) | exact HB.out)) hb); clear HB; have HB := n0_; clear n0_; (try clear hb); (try clear hb2); (try clear hk); (try clear hi)) | (go_at_call 14; (with_reducible refine (cluster_Split.calls t463 t464 _ A4.out).mono ?_); rintro e w7 ⟨v465, rfl, ho0, hb⟩; have n0_ := Aside0.mk (Kd.R_lower ho0 (below_size (by repeat (first | (with_reducible first | exact HB.out | apply below_alloc | apply pw_below_drewN | apply below_drew1) | exact HB.out)))); have n1_ := Aside0.mk (below_step (by repeat (first | (with_reducible first | exact HB.out | apply below_alloc | apply pw_below_drewN | apply below_drew1) | exact HB.out)) hb); clear HB; have HO466 := n0_; have HB := n1_; clear n0_ n1_; (try clear hb); (try clear hb2); (try clear hk); (try clear hi); (try clear ho0))); try go_wp2_with (first | (go_at_call 9; (with_reducible refine (abugidalaw17_sanity.calls k  t462 _ A2.out).mono ?_); rintro e w5 ⟨rfl, hb⟩; have n0_ := Aside0.mk (below_step (by repeat (first | (with_reducible first | exact HB.out | apply below_alloc | apply pw_below_drewN | apply below_drew1) | exact HB.out)) hb); clear HB; have HB := n0_; clear n0_; (try clear hb); (try clear hb2); (try clear hk); (try clear hi)) | (go_at_call 10; (with_reducible refine (abugidaref05_Text.calls k _ _ l0 60 t463 _ ?side1 ?side2 A3.out).mono ?_); (case side1 => repeat (first | exact (Kd.C_below HR0.out HB.out) | (with_reducible refine Kd.C_alloc ?_ _) | (with_reducible refine Kd.C_drewN ?_ _) | (with_reducible refine Kd.C_drew ?_))); (case side2 => exact HC0.out); rintro e w6 ⟨rfl, hb⟩; have n0_ := Aside0.mk (below_step (by repeat (first | (with_reducible first | exact HB.out | apply below_alloc | apply pw_below_drewN | apply below_drew1) | exact HB.out)) hb); clear HB; have HB := n0_; clear n0_; (try clear hb); (try clear hb2); (try clear hk); (try clear hi)) | (go_at_call 14; (with_reducible refine (cluster_Split.calls t463 t464 _ A4.out).mono ?_); rintro e w7 ⟨v465, rfl, ho0, hb⟩; have n0_ := Aside0.mk (Kd.R_lower ho0 (below_size (by repeat (first | (with_reducible first | exact HB.out | apply below_alloc | apply pw_below_drewN | apply below_drew1) | exact HB.out)))); have n1_ := Aside0.mk (below_step (by repeat (first | (with_reducible first | exact HB.out | apply below_alloc | apply pw_below_drewN | apply below_drew1) | exact HB.out)) hb); clear HB; have HO466 := n0_; have HB := n1_; clear n0_ n1_; (try clear hb); (try clear hb2); (try clear hk); (try clear hi); (try clear ho0))))
  go_loopg [6] k (fun kq v6 w' => ∃ (x6_1 : Int), v6 = .int .i64 x6_1 ∧ Aside0 (abugidalaw17_FormsPlaces.l0 kq t462 t463 t464 x6_1 = some r) ∧ Aside0 (kq ≤ k) ∧ Aside0 (Kd.R k29 29 w' w.heap.size (fun _ => True) v465 t464) ∧ Aside0 (Below w.heap.size w w'))
  case atStart => exact ⟨(0), (by first | rfl | (simp; done) | (simp [*]; done)), H', ⟨Nat.le_refl _⟩, ⟨by (with_reducible repeat (first | apply Kd.R_alloc | apply Kd.R_drewN | apply Kd.R_drew)); exact HO466.out⟩, ⟨by repeat (first | (with_reducible first | exact HB.out | apply below_alloc | apply pw_below_drewN | apply below_drew1) | exact HB.out)⟩⟩
  case round =>
    clear H'
    try clear p2
    obtain ⟨x6_1, rfl, HA, HK1, HO_5, HB⟩ := hrel
    cases gk with
    | zero => exact absurd HA.out (by simp [abugidalaw17_FormsPlaces.l0])
    | succ k1 =>
      have H := HA.out
      clear HA
      simp only [abugidalaw17_FormsPlaces.l0] at H
      by_cases c8 : x6_1 < (t464.length : Int)
      · rw [if_pos c8] at H
        have c8b0 : decide (x6_1 < (t464.length : Int)) = true := decide_eq_true c8
        clear c8
        by_cases c9 : 0 ≤ x6_1
        · rw [if_pos c9] at H
          have c9b0 : decide (0 ≤ x6_1) = true := decide_eq_true c9
          clear c9
          replace H := Option.bind_eq_some_iff.mp H
          obtain ⟨t468, A100, H⟩ := H
          replace H : (abugidalaw17_FormsPlaces.l1 k1 t462 t463 t464 x6_1 t468 0 ((rd_T29 t464 x6_1).f0)) = some r := H
          have A10 := Aside0.mk A100
          clear A100
          have H' := Aside0.mk H
          clear H
          obtain ⟨Ao11, co11, eo11⟩ := Kd.R_slice HO_5.out
          subst eo11
          have p467 : 0 ≤ (x6_1 : Int) := of_decide_eq_true (by first | (with_reducible assumption) | assumption)
          have q467 : x6_1 < (t464.length : Int) := of_decide_eq_true (by first | (with_reducible assumption) | assumption)
          obtain ⟨ad467, e467, hx467_0, hx467_1⟩ := at_T29 (Kd.R_reads' HO_5.out).2.2 x6_1 p467 q467
          cases e467
          replace p467 := eq_true p467
          replace q467 := eq_true q467
          go_wp2_with (first | (go_at_call 15; (with_reducible refine (forms_Order.calls k1 t463 ((rd_T29 t464 x6_1).f0) ((rd_T29 t464 x6_1).f1) t468 _ A10.out).mono ?_); rintro e w12 ⟨v469, rfl, ho0, hb⟩; have n0_ := Aside0.mk (Kd.R_below (by (with_reducible repeat (first | apply Kd.R_alloc | apply Kd.R_drewN | apply Kd.R_drew)); exact HO_5.out) hb); have n1_ := Aside0.mk (Kd.R_lower ho0 (below_size (by repeat (first | (with_reducible first | exact HB.out | apply below_alloc | apply pw_below_drewN | apply below_drew1) | exact HB.out)))); have n2_ := Aside0.mk (below_step (by repeat (first | (with_reducible first | exact HB.out | apply below_alloc | apply pw_below_drewN | apply below_drew1) | exact HB.out)) hb); clear HO_5; clear HB; have HO_5 := n0_; have HO470 := n1_; have HB := n2_; clear n0_ n1_ n2_; (try clear hb); (try clear hb2); (try clear hk); (try clear hi); (try clear ho0); have p471 : 0 ≤ (x6_1 : Int) := of_decide_eq_true (by first | (with_reducible assumption) | assumption); have q471 : x6_1 < (t464.length : Int) := of_decide_eq_true (by first | (with_reducible assumption) | assumption); obtain ⟨ad471, e471, hx471_0, hx471_1⟩ := at_T29 (Kd.R_reads' HO_5.out).2.2 x6_1 p471 q471; obtain rfl : ad467 = ad471 := (by injection e471); replace p471 := eq_true p471; replace q471 := eq_true q471))
          repeat (go_quiet (first | (go_at_call 15; (with_reducible refine (forms_Order.calls k1 t463 ((rd_T29 t464 x6_1).f0) ((rd_T29 t464 x6_1).f1) t468 _ A10.out).mono ?_); rintro e w12 ⟨v469, rfl, ho0, hb⟩; have n0_ := Aside0.mk (Kd.R_below (by (with_reducible repeat (first | apply Kd.R_alloc | apply Kd.R_drewN | apply Kd.R_drew)); exact HO_5.out) hb); have n1_ := Aside0.mk (Kd.R_lower ho0 (below_size (by repeat (first | (with_reducible first | exact HB.out | apply below_alloc | apply pw_below_drewN | apply below_drew1) | exact HB.out)))); have n2_ := Aside0.mk (below_step (by repeat (first | (with_reducible first | exact HB.out | apply below_alloc | apply pw_below_drewN | apply below_drew1) | exact HB.out)) hb); clear HO_5; clear HB; have HO_5 := n0_; have HO470 := n1_; have HB := n2_; clear n0_ n1_ n2_; (try clear hb); (try clear hb2); (try clear hk); (try clear hi); (try clear ho0); have p471 : 0 ≤ (x6_1 : Int) := of_decide_eq_true (by first | (with_reducible assumption) | assumption); have q471 : x6_1 < (t464.length : Int) := of_decide_eq_true (by first | (with_reducible assumption) | assumption); obtain ⟨ad471, e471, hx471_0, hx471_1⟩ := at_T29 (Kd.R_reads' HO_5.out).2.2 x6_1 p471 q471; obtain rfl : ad467 = ad471 := (by injection e471); replace p471 := eq_true p471; replace q471 := eq_true q471)); try go_wp2_with (first | (go_at_call 15; (with_reducible refine (forms_Order.calls k1 t463 ((rd_T29 t464 x6_1).f0) ((rd_T29 t464 x6_1).f1) t468 _ A10.out).mono ?_); rintro e w12 ⟨v469, rfl, ho0, hb⟩; have n0_ := Aside0.mk (Kd.R_below (by (with_reducible repeat (first | apply Kd.R_alloc | apply Kd.R_drewN | apply Kd.R_drew)); exact HO_5.out) hb); have n1_ := Aside0.mk (Kd.R_lower ho0 (below_size (by repeat (first | (with_reducible first | exact HB.out | apply below_alloc | apply pw_below_drewN | apply below_drew1) | exact HB.out)))); have n2_ := Aside0.mk (below_step (by repeat (first | (with_reducible first | exact HB.out | apply below_alloc | apply pw_below_drewN | apply below_drew1) | exact HB.out)) hb); clear HO_5; clear HB; have HO_5 := n0_; have HO470 := n1_; have HB := n2_; clear n0_ n1_ n2_; (try clear hb); (try clear hb2); (try clear hk); (try clear hi); (try clear ho0); have p471 : 0 ≤ (x6_1 : Int) := of_decide_eq_true (by first | (with_reducible assumption) | assumption); have q471 : x6_1 < (t464.length : Int) := of_decide_eq_true (by first | (with_reducible assumption) | assumption); obtain ⟨ad471, e471, hx471_0, hx471_1⟩ := at_T29 (Kd.R_reads' HO_5.out).2.2 x6_1 p471 q471; obtain rfl : ad467 = ad471 := (by injection e471); replace p471 := eq_true p471; replace q471 := eq_true q471)))
          go_loopg [8, 9] k1 (fun kq v8 v9 w' => ∃ (x8_2 : Int) (x9_2 : Int), v8 = .int .i64 x8_2 ∧ v9 = .int .i64 x9_2 ∧ Aside0 (abugidalaw17_FormsPlaces.l1 kq t462 t463 t464 x6_1 t468 x8_2 x9_2 = some r) ∧ Aside0 (kq ≤ k1) ∧ Aside0 (Kd.R k29 29 w' w.heap.size (fun _ => True) (.slice (some ad467) t464.length co11) t464) ∧ Aside0 (Kd.R (Kd.int .i64) 3 w' w.heap.size (fun _ => True) v469 t468) ∧ Aside0 (Below w.heap.size w w'))
          case atStart => exact ⟨(0), ((rd_T29 t464 x6_1).f0), (by first | rfl | (simp; done) | (simp [*]; done)), (by first | rfl | (simp; done) | (simp [*]; done)), H', ⟨Nat.le_refl _⟩, ⟨by (with_reducible repeat (first | apply Kd.R_alloc | apply Kd.R_drewN | apply Kd.R_drew)); exact HO_5.out⟩, ⟨by (with_reducible repeat (first | apply Kd.R_alloc | apply Kd.R_drewN | apply Kd.R_drew)); exact HO470.out⟩, ⟨by repeat (first | (with_reducible first | exact HB.out | apply below_alloc | apply pw_below_drewN | apply below_drew1) | exact HB.out)⟩⟩
          case round =>
            clear H'
            try clear p2
            try clear p4
            try clear q4
            try clear hx4
            try clear c8
            try clear c8b0
            try clear c9
            try clear c9b0
            try clear hx467_0
            try clear hx467_1
            try clear hx471_0
            try clear hx471_1
            try clear p2
            try clear p467
            try clear p471
            try clear q467
            try clear q471
            obtain ⟨x8_2, x9_2, rfl, rfl, HA, HK2, HO_5, HO_7, HB⟩ := hrel
            cases gk with
            | zero => exact absurd HA.out (by simp [abugidalaw17_FormsPlaces.l1])
            | succ k2 =>
              have H := HA.out
              clear HA
              simp only [abugidalaw17_FormsPlaces.l1] at H
              by_cases c13 : 0 ≤ x6_1
              · rw [if_pos c13] at H
                have c13b0 : decide (0 ≤ x6_1) = true := decide_eq_true c13
                clear c13
                by_cases c14 : x6_1 < (t464.length : Int)
                · rw [if_pos c14] at H
                  have c14b0 : decide (x6_1 < (t464.length : Int)) = true := decide_eq_true c14
                  clear c14
                  by_cases c15 : x9_2 < ((rd_T29 t464 x6_1).f1)
                  · rw [if_pos c15] at H
                    have c15b0 : decide (x9_2 < ((rd_T29 t464 x6_1).f1)) = true := decide_eq_true c15
                    clear c15
                    by_cases c16 : 0 ≤ x9_2
                    · rw [if_pos c16] at H
                      have c16b0 : decide (0 ≤ x9_2) = true := decide_eq_true c16
                      clear c16
                      by_cases c17 : x9_2 < (t463.size : Int)
                      · rw [if_pos c17] at H
                        have c17b0 : decide (x9_2 < (t463.size : Int)) = true := decide_eq_true c17
                        clear c17
                        replace H := Option.bind_eq_some_iff.mp H
                        obtain ⟨t473, A190, H⟩ := H
                        replace H : (abugidalaw17_FormsPlaces.l2 k2 t462 t463 t464 x6_1 t468 x8_2 x9_2 t473 0 0) = some r := H
                        have A19 := Aside0.mk A190
                        clear A190
                        have H' := Aside0.mk H
                        clear H
                        have p472 : 0 ≤ (x6_1 : Int) := of_decide_eq_true (by first | (with_reducible assumption) | assumption)
                        have q472 : x6_1 < (t464.length : Int) := of_decide_eq_true (by first | (with_reducible assumption) | assumption)
                        obtain ⟨ad472, e472, hx472_0, hx472_1⟩ := at_T29 (Kd.R_reads' HO_5.out).2.2 x6_1 p472 q472
                        obtain rfl : ad467 = ad472 := (by injection e472)
                        replace p472 := eq_true p472
                        replace q472 := eq_true q472
                        have p18 : 0 ≤ (x9_2 : Int) := of_decide_eq_true (by first | (with_reducible assumption) | assumption)
                        have q18 : x9_2 < (t463.size : Int) := of_decide_eq_true (by first | (with_reducible assumption) | assumption)
                        have hx18 := bt_at t463 x9_2
                        replace p18 := eq_true p18
                        replace q18 := eq_true q18
                        go_wp2_with (first | (go_at_call 22; (with_reducible refine (chars_Class.calls k2 (wrap64 (bt t463 x9_2)) t473 _ A19.out).mono ?_); rintro e w20 ⟨rfl, hb⟩; have n0_ := Aside0.mk (Kd.R_below (by (with_reducible repeat (first | apply Kd.R_alloc | apply Kd.R_drewN | apply Kd.R_drew)); exact HO_5.out) hb); have n1_ := Aside0.mk (Kd.R_below (by (with_reducible repeat (first | apply Kd.R_alloc | apply Kd.R_drewN | apply Kd.R_drew)); exact HO_7.out) hb); have n2_ := Aside0.mk (below_step (by repeat (first | (with_reducible first | exact HB.out | apply below_alloc | apply pw_below_drewN | apply below_drew1) | exact HB.out)) hb); clear HO_5; clear HO_7; clear HB; have HO_5 := n0_; have HO_7 := n1_; have HB := n2_; clear n0_ n1_ n2_; (try clear hb); (try clear hb2); (try clear hk); (try clear hi)))
                        repeat (go_quiet (first | (go_at_call 22; (with_reducible refine (chars_Class.calls k2 (wrap64 (bt t463 x9_2)) t473 _ A19.out).mono ?_); rintro e w20 ⟨rfl, hb⟩; have n0_ := Aside0.mk (Kd.R_below (by (with_reducible repeat (first | apply Kd.R_alloc | apply Kd.R_drewN | apply Kd.R_drew)); exact HO_5.out) hb); have n1_ := Aside0.mk (Kd.R_below (by (with_reducible repeat (first | apply Kd.R_alloc | apply Kd.R_drewN | apply Kd.R_drew)); exact HO_7.out) hb); have n2_ := Aside0.mk (below_step (by repeat (first | (with_reducible first | exact HB.out | apply below_alloc | apply pw_below_drewN | apply below_drew1) | exact HB.out)) hb); clear HO_5; clear HO_7; clear HB; have HO_5 := n0_; have HO_7 := n1_; have HB := n2_; clear n0_ n1_ n2_; (try clear hb); (try clear hb2); (try clear hk); (try clear hi))); try go_wp2_with (first | (go_at_call 22; (with_reducible refine (chars_Class.calls k2 (wrap64 (bt t463 x9_2)) t473 _ A19.out).mono ?_); rintro e w20 ⟨rfl, hb⟩; have n0_ := Aside0.mk (Kd.R_below (by (with_reducible repeat (first | apply Kd.R_alloc | apply Kd.R_drewN | apply Kd.R_drew)); exact HO_5.out) hb); have n1_ := Aside0.mk (Kd.R_below (by (with_reducible repeat (first | apply Kd.R_alloc | apply Kd.R_drewN | apply Kd.R_drew)); exact HO_7.out) hb); have n2_ := Aside0.mk (below_step (by repeat (first | (with_reducible first | exact HB.out | apply below_alloc | apply pw_below_drewN | apply below_drew1) | exact HB.out)) hb); clear HO_5; clear HO_7; clear HB; have HO_5 := n0_; have HO_7 := n1_; have HB := n2_; clear n0_ n1_ n2_; (try clear hb); (try clear hb2); (try clear hk); (try clear hi))))
                        go_loopg [11, 12] k2 (fun kq v11 v12 w' => ∃ (x11_3 : Int) (x12_3 : Int), v11 = .int .i64 x11_3 ∧ v12 = .int .i64 x12_3 ∧ Aside0 (abugidalaw17_FormsPlaces.l2 kq t462 t463 t464 x6_1 t468 x8_2 x9_2 t473 x11_3 x12_3 = some r) ∧ Aside0 (kq ≤ k2) ∧ Aside0 (Kd.R k29 29 w' w.heap.size (fun _ => True) (.slice (some ad467) t464.length co11) t464) ∧ Aside0 (Kd.R (Kd.int .i64) 3 w' w.heap.size (fun _ => True) v469 t468) ∧ Aside0 (Below w.heap.size w w'))
                        case atStart => exact ⟨(0), (0), (by first | rfl | (simp; done) | (simp [*]; done)), (by first | rfl | (simp; done) | (simp [*]; done)), H', ⟨Nat.le_refl _⟩, ⟨by (with_reducible repeat (first | apply Kd.R_alloc | apply Kd.R_drewN | apply Kd.R_drew)); exact HO_5.out⟩, ⟨by (with_reducible repeat (first | apply Kd.R_alloc | apply Kd.R_drewN | apply Kd.R_drew)); exact HO_7.out⟩, ⟨by repeat (first | (with_reducible first | exact HB.out | apply below_alloc | apply pw_below_drewN | apply below_drew1) | exact HB.out)⟩⟩
                        case round =>
                          clear H'
                          try clear c1
                          try clear p1
                          try clear q1
                          try clear hx1
                          try clear p2
                          try clear p4
                          try clear q4
                          try clear hx4
                          try clear p6
                          try clear c8
                          try clear c8b0
                          try clear c9
                          try clear c9b0
                          try clear c13
                          try clear c13b0
                          try clear c14
                          try clear c14b0
                          try clear c15
                          try clear c15b0
                          try clear c16
                          try clear c16b0
                          try clear c17
                          try clear c17b0
                          try clear p18
                          try clear q18
                          try clear hx18
                          try clear hx467_0
                          try clear hx467_1
                          try clear hx471_0
                          try clear hx471_1
                          try clear hx472_0
                          try clear hx472_1
                          try clear p18
                          try clear p2
                          try clear p4
                          try clear p467
                          try clear p471
                          try clear p472
                          try clear q18
                          try clear q4
                          try clear q467
                          try clear q471
                          try clear q472
                          obtain ⟨x11_3, x12_3, rfl, rfl, HA, HK3, HO_5, HO_7, HB⟩ := hrel
                          cases gk with
                          | zero => exact absurd HA.out (by simp [abugidalaw17_FormsPlaces.l2])
                          | succ k3 =>
                            have H := HA.out
                            clear HA
                            simp only [abugidalaw17_FormsPlaces.l2] at H
                            by_cases c21 : x12_3 < (t468.length : Int)
                            · rw [if_pos c21] at H
                              have c21b0 : decide (x12_3 < (t468.length : Int)) = true := decide_eq_true c21
                              clear c21
                              by_cases c22 : 0 ≤ x12_3
                              · rw [if_pos c22] at H
                                have c22b0 : decide (0 ≤ x12_3) = true := decide_eq_true c22
                                clear c22
                                by_cases c23 : (rd t468 x12_3) = x9_2
                                · rw [if_pos c23] at H
                                  have c23b0 : ((rd t468 x12_3) == x9_2) = true := beq_iff_eq.mpr c23
                                  have c23b1 : ((rd t468 x12_3) != x9_2) = false := bne_eq_false_iff_eq.mpr c23
                                  clear c23
                                  have H' := Aside0.mk H
                                  clear H
                                  obtain ⟨Ao24, co24, eo24⟩ := Kd.R_slice HO_7.out
                                  subst eo24
                                  have p474 : 0 ≤ (x12_3 : Int) := of_decide_eq_true (by first | (with_reducible assumption) | assumption)
                                  have q474 : x12_3 < (t468.length : Int) := of_decide_eq_true (by first | (with_reducible assumption) | assumption)
                                  obtain ⟨ad474, e474, hx474_0⟩ := Kd.at_int (Kd.R_reads' HO_7.out).2.2 x12_3 p474 q474
                                  cases e474
                                  replace p474 := eq_true p474
                                  replace q474 := eq_true q474
                                  go_wp2
                                  repeat (go_quiet (fail); try go_wp2)
                                  go_roundg k3
                                  case measure => have := HK1.out; have := HK2.out; have := HK3.out; omega
                                  case rel => exact ⟨(wrap64 (x11_3 + 1)), (wrap64 (x12_3 + 1)), (by first | rfl | (simp; done) | (simp [*]; done)), (by first | rfl | (simp; done) | (simp [*]; done)), H', ⟨by have := HK1.out; have := HK2.out; have := HK3.out; omega⟩, ⟨by (with_reducible repeat (first | apply Kd.R_alloc | apply Kd.R_drewN | apply Kd.R_drew)); exact HO_5.out⟩, ⟨by (with_reducible repeat (first | apply Kd.R_alloc | apply Kd.R_drewN | apply Kd.R_drew)); exact HO_7.out⟩, ⟨by repeat (first | (with_reducible first | exact HB.out | apply below_alloc | apply pw_below_drewN | apply below_drew1) | exact HB.out)⟩⟩
                                · rw [if_neg c23] at H
                                  have c23b0 : ((rd t468 x12_3) == x9_2) = false := beq_eq_false_iff_ne.mpr c23
                                  have c23b1 : ((rd t468 x12_3) != x9_2) = true := bne_iff_ne.mpr c23
                                  have H' := Aside0.mk H
                                  clear H
                                  obtain ⟨Ao25, co25, eo25⟩ := Kd.R_slice HO_7.out
                                  subst eo25
                                  have p474 : 0 ≤ (x12_3 : Int) := of_decide_eq_true (by first | (with_reducible assumption) | assumption)
                                  have q474 : x12_3 < (t468.length : Int) := of_decide_eq_true (by first | (with_reducible assumption) | assumption)
                                  obtain ⟨ad474, e474, hx474_0⟩ := Kd.at_int (Kd.R_reads' HO_7.out).2.2 x12_3 p474 q474
                                  cases e474
                                  replace p474 := eq_true p474
                                  replace q474 := eq_true q474
                                  go_wp2
                                  repeat (go_quiet (fail); try go_wp2)
                                  go_roundg k3
                                  case measure => have := HK1.out; have := HK2.out; have := HK3.out; omega
                                  case rel => exact ⟨(x11_3), (wrap64 (x12_3 + 1)), (by first | rfl | (simp; done) | (simp [*]; done)), (by first | rfl | (simp; done) | (simp [*]; done)), H', ⟨by have := HK1.out; have := HK2.out; have := HK3.out; omega⟩, ⟨by (with_reducible repeat (first | apply Kd.R_alloc | apply Kd.R_drewN | apply Kd.R_drew)); exact HO_5.out⟩, ⟨by (with_reducible repeat (first | apply Kd.R_alloc | apply Kd.R_drewN | apply Kd.R_drew)); exact HO_7.out⟩, ⟨by repeat (first | (with_reducible first | exact HB.out | apply below_alloc | apply pw_below_drewN | apply below_drew1) | exact HB.out)⟩⟩
                              · rw [if_neg c22] at H
                                exact absurd H (by simp)
                            · rw [if_neg c21] at H
                              have c21b0 : decide (x12_3 < (t468.length : Int)) = false := decide_eq_false c21
                              clear c21
                              by_cases c26 : t473 = 13
                              · rw [if_pos c26] at H
                                have c26b0 : (t473 == 13) = true := beq_iff_eq.mpr c26
                                have c26b1 : (t473 != 13) = false := bne_eq_false_iff_eq.mpr c26
                                clear c26
                                by_cases c27 : x11_3 = 0
                                · rw [if_pos c27] at H
                                  have c27b0 : (x11_3 == 0) = true := beq_iff_eq.mpr c27
                                  have c27b1 : (x11_3 != 0) = false := bne_eq_false_iff_eq.mpr c27
                                  clear c27
                                  have H' := Aside0.mk H
                                  clear H
                                  obtain ⟨Ao28, co28, eo28⟩ := Kd.R_slice HO_7.out
                                  subst eo28
                                  go_wp2
                                  repeat (go_quiet (fail); try go_wp2)
                                  go_roundg k3
                                  case measure => have := HK1.out; have := HK2.out; have := HK3.out; omega
                                  case rel => exact ⟨(wrap64 (x8_2 + x11_3)), (wrap64 (x9_2 + 1)), (by first | rfl | (simp; done) | (simp [*]; done)), (by first | rfl | (simp; done) | (simp [*]; done)), H', ⟨by have := HK1.out; have := HK2.out; have := HK3.out; omega⟩, ⟨by (with_reducible repeat (first | apply Kd.R_alloc | apply Kd.R_drewN | apply Kd.R_drew)); exact HO_5.out⟩, ⟨by (with_reducible repeat (first | apply Kd.R_alloc | apply Kd.R_drewN | apply Kd.R_drew)); exact HO_7.out⟩, ⟨by repeat (first | (with_reducible first | exact HB.out | apply below_alloc | apply pw_below_drewN | apply below_drew1) | exact HB.out)⟩⟩
                                · rw [if_neg c27] at H
                                  have c27b0 : (x11_3 == 0) = false := beq_eq_false_iff_ne.mpr c27
                                  have c27b1 : (x11_3 != 0) = true := bne_iff_ne.mpr c27
                                  obtain rfl := Option.some.inj H
                                  obtain ⟨Ao29, co29, eo29⟩ := Kd.R_slice HO_7.out
                                  subst eo29
                                  go_wp2
                                  repeat (go_quiet (fail); try go_wp2)
                                  go_ret
                                  exact ⟨by first | rfl | (simp [errW_none, errW_some] <;> rfl) | (simp [*, errW_none, errW_some] <;> rfl), by repeat (first | (with_reducible first | exact HB.out | apply below_alloc | apply pw_below_drewN | apply below_drew1) | exact HB.out)⟩
                              · rw [if_neg c26] at H
                                have c26b0 : (t473 == 13) = false := beq_eq_false_iff_ne.mpr c26
                                have c26b1 : (t473 != 13) = true := bne_iff_ne.mpr c26
                                by_cases c30 : t473 = 14
                                · rw [if_pos c30] at H
                                  have c30b0 : (t473 == 14) = true := beq_iff_eq.mpr c30
                                  have c30b1 : (t473 != 14) = false := bne_eq_false_iff_eq.mpr c30
                                  clear c30
                                  by_cases c31 : x11_3 = 0
                                  · rw [if_pos c31] at H
                                    have c31b0 : (x11_3 == 0) = true := beq_iff_eq.mpr c31
                                    have c31b1 : (x11_3 != 0) = false := bne_eq_false_iff_eq.mpr c31
                                    clear c31
                                    have H' := Aside0.mk H
                                    clear H
                                    obtain ⟨Ao32, co32, eo32⟩ := Kd.R_slice HO_7.out
                                    subst eo32
                                    go_wp2
                                    repeat (go_quiet (fail); try go_wp2)
                                    go_roundg k3
                                    case measure => have := HK1.out; have := HK2.out; have := HK3.out; omega
                                    case rel => exact ⟨(wrap64 (x8_2 + x11_3)), (wrap64 (x9_2 + 1)), (by first | rfl | (simp; done) | (simp [*]; done)), (by first | rfl | (simp; done) | (simp [*]; done)), H', ⟨by have := HK1.out; have := HK2.out; have := HK3.out; omega⟩, ⟨by (with_reducible repeat (first | apply Kd.R_alloc | apply Kd.R_drewN | apply Kd.R_drew)); exact HO_5.out⟩, ⟨by (with_reducible repeat (first | apply Kd.R_alloc | apply Kd.R_drewN | apply Kd.R_drew)); exact HO_7.out⟩, ⟨by repeat (first | (with_reducible first | exact HB.out | apply below_alloc | apply pw_below_drewN | apply below_drew1) | exact HB.out)⟩⟩
                                  · rw [if_neg c31] at H
                                    have c31b0 : (x11_3 == 0) = false := beq_eq_false_iff_ne.mpr c31
                                    have c31b1 : (x11_3 != 0) = true := bne_iff_ne.mpr c31
                                    obtain rfl := Option.some.inj H
                                    obtain ⟨Ao33, co33, eo33⟩ := Kd.R_slice HO_7.out
                                    subst eo33
                                    go_wp2
                                    repeat (go_quiet (fail); try go_wp2)
                                    go_ret
                                    exact ⟨by first | rfl | (simp [errW_none, errW_some] <;> rfl) | (simp [*, errW_none, errW_some] <;> rfl), by repeat (first | (with_reducible first | exact HB.out | apply below_alloc | apply pw_below_drewN | apply below_drew1) | exact HB.out)⟩
                                · rw [if_neg c30] at H
                                  have c30b0 : (t473 == 14) = false := beq_eq_false_iff_ne.mpr c30
                                  have c30b1 : (t473 != 14) = true := bne_iff_ne.mpr c30
                                  by_cases c34 : x11_3 = 1
                                  · rw [if_pos c34] at H
                                    have c34b0 : (x11_3 == 1) = true := beq_iff_eq.mpr c34
                                    have c34b1 : (x11_3 != 1) = false := bne_eq_false_iff_eq.mpr c34
                                    clear c34
                                    have H' := Aside0.mk H
                                    clear H
                                    obtain ⟨Ao35, co35, eo35⟩ := Kd.R_slice HO_7.out
                                    subst eo35
                                    go_wp2
                                    repeat (go_quiet (fail); try go_wp2)
                                    go_roundg k3
                                    case measure => have := HK1.out; have := HK2.out; have := HK3.out; omega
                                    case rel => exact ⟨(wrap64 (x8_2 + x11_3)), (wrap64 (x9_2 + 1)), (by first | rfl | (simp; done) | (simp [*]; done)), (by first | rfl | (simp; done) | (simp [*]; done)), H', ⟨by have := HK1.out; have := HK2.out; have := HK3.out; omega⟩, ⟨by (with_reducible repeat (first | apply Kd.R_alloc | apply Kd.R_drewN | apply Kd.R_drew)); exact HO_5.out⟩, ⟨by (with_reducible repeat (first | apply Kd.R_alloc | apply Kd.R_drewN | apply Kd.R_drew)); exact HO_7.out⟩, ⟨by repeat (first | (with_reducible first | exact HB.out | apply below_alloc | apply pw_below_drewN | apply below_drew1) | exact HB.out)⟩⟩
                                  · rw [if_neg c34] at H
                                    have c34b0 : (x11_3 == 1) = false := beq_eq_false_iff_ne.mpr c34
                                    have c34b1 : (x11_3 != 1) = true := bne_iff_ne.mpr c34
                                    obtain rfl := Option.some.inj H
                                    obtain ⟨Ao36, co36, eo36⟩ := Kd.R_slice HO_7.out
                                    subst eo36
                                    go_wp2
                                    repeat (go_quiet (fail); try go_wp2)
                                    go_ret
                                    exact ⟨by first | rfl | (simp [errW_none, errW_some] <;> rfl) | (simp [*, errW_none, errW_some] <;> rfl), by repeat (first | (with_reducible first | exact HB.out | apply below_alloc | apply pw_below_drewN | apply below_drew1) | exact HB.out)⟩
                      · rw [if_neg c17] at H
                        exact absurd H (by simp)
                    · rw [if_neg c16] at H
                      exact absurd H (by simp)
                  · rw [if_neg c15] at H
                    have c15b0 : decide (x9_2 < ((rd_T29 t464 x6_1).f1)) = false := decide_eq_false c15
                    clear c15
                    by_cases c37 : x8_2 = (t468.length : Int)
                    · rw [if_pos c37] at H
                      have c37b0 : (x8_2 == (t468.length : Int)) = true := beq_iff_eq.mpr c37
                      have c37b1 : (x8_2 != (t468.length : Int)) = false := bne_eq_false_iff_eq.mpr c37
                      clear c37
                      have H' := Aside0.mk H
                      clear H
                      have p472 : 0 ≤ (x6_1 : Int) := of_decide_eq_true (by first | (with_reducible assumption) | assumption)
                      have q472 : x6_1 < (t464.length : Int) := of_decide_eq_true (by first | (with_reducible assumption) | assumption)
                      obtain ⟨ad472, e472, hx472_0, hx472_1⟩ := at_T29 (Kd.R_reads' HO_5.out).2.2 x6_1 p472 q472
                      obtain rfl : ad467 = ad472 := (by injection e472)
                      replace p472 := eq_true p472
                      replace q472 := eq_true q472
                      obtain ⟨Ao38, co38, eo38⟩ := Kd.R_slice HO_7.out
                      subst eo38
                      go_wp2
                      repeat (go_quiet (fail); try go_wp2)
                      go_loopg [14] k2 (fun kq v14 w' => ∃ (x14_3 : Int), v14 = .int .i64 x14_3 ∧ Aside0 (abugidalaw17_FormsPlaces.l3 kq t462 t463 t464 x6_1 t468 x14_3 = some r) ∧ Aside0 (kq ≤ k2) ∧ Aside0 (Kd.R k29 29 w' w.heap.size (fun _ => True) (.slice (some ad467) t464.length co11) t464) ∧ Aside0 (Kd.R (Kd.int .i64) 3 w' w.heap.size (fun _ => True) (.slice Ao38 t468.length co38) t468) ∧ Aside0 (Below w.heap.size w w'))
                      case atStart => exact ⟨(1), (by first | rfl | (simp; done) | (simp [*]; done)), H', ⟨Nat.le_refl _⟩, ⟨by (with_reducible repeat (first | apply Kd.R_alloc | apply Kd.R_drewN | apply Kd.R_drew)); exact HO_5.out⟩, ⟨by (with_reducible repeat (first | apply Kd.R_alloc | apply Kd.R_drewN | apply Kd.R_drew)); exact HO_7.out⟩, ⟨by repeat (first | (with_reducible first | exact HB.out | apply below_alloc | apply pw_below_drewN | apply below_drew1) | exact HB.out)⟩⟩
                      case round =>
                        clear H'
                        try clear c1
                        try clear p1
                        try clear q1
                        try clear hx1
                        try clear c2
                        try clear p2
                        try clear c3
                        try clear p4
                        try clear q4
                        try clear hx4
                        try clear p6
                        try clear c8
                        try clear c8b0
                        try clear c9
                        try clear c9b0
                        try clear c13
                        try clear c13b0
                        try clear c14
                        try clear c14b0
                        try clear c15
                        try clear c15b0
                        try clear c16
                        try clear c16b0
                        try clear c17
                        try clear c17b0
                        try clear p18
                        try clear q18
                        try clear hx18
                        try clear c21
                        try clear c21b0
                        try clear c22
                        try clear c22b0
                        try clear c23
                        try clear c23b0
                        try clear c23b1
                        try clear c26
                        try clear c26b0
                        try clear c26b1
                        try clear c27
                        try clear c27b0
                        try clear c27b1
                        try clear c30
                        try clear c30b0
                        try clear c30b1
                        try clear c31
                        try clear c31b0
                        try clear c31b1
                        try clear c34
                        try clear c34b0
                        try clear c34b1
                        try clear c37
                        try clear c37b0
                        try clear c37b1
                        try clear hx467_0
                        try clear hx467_1
                        try clear hx471_0
                        try clear hx471_1
                        try clear hx472_0
                        try clear hx472_1
                        try clear hx474_0
                        try clear p1
                        try clear p18
                        try clear p2
                        try clear p4
                        try clear p467
                        try clear p471
                        try clear p472
                        try clear p474
                        try clear p6
                        try clear q1
                        try clear q18
                        try clear q4
                        try clear q467
                        try clear q471
                        try clear q472
                        try clear q474
                        obtain ⟨x14_3, rfl, HA, HK3, HO_5, HO_7, HB⟩ := hrel
                        cases gk with
                        | zero => exact absurd HA.out (by simp [abugidalaw17_FormsPlaces.l3])
                        | succ k3 =>
                          have H := HA.out
                          clear HA
                          simp only [abugidalaw17_FormsPlaces.l3] at H
                          by_cases c39 : x14_3 < (t468.length : Int)
                          · rw [if_pos c39] at H
                            have c39b0 : decide (x14_3 < (t468.length : Int)) = true := decide_eq_true c39
                            clear c39
                            obtain ⟨ji40, hji40⟩ : ∃ j_ : Int, (wrap64 (x14_3 - 1)) = j_ := ⟨_, rfl⟩
                            replace H : (if 0 ≤ (ji40) then (if (ji40) < (t468.length : Int) then (if 0 ≤ (rd t468 (ji40)) then (if (rd t468 (ji40)) < (t463.size : Int) then ((chars_Class.f k3 (wrap64 (bt t463 (rd t468 (ji40))))).bind fun t476 => (if 0 ≤ x14_3 then (if 0 ≤ (rd t468 x14_3) then (if (rd t468 x14_3) < (t463.size : Int) then ((chars_Class.f k3 (wrap64 (bt t463 (rd t468 x14_3)))).bind fun t478 => (if t478 = 12 then (if t476 = 12 then (if ((t476 == 12) == (t478 == 12)) = true then (if (rd t468 (ji40)) ≥ (rd t468 x14_3) then (some false) else (abugidalaw17_FormsPlaces.l3 k3 t462 t463 t464 x6_1 t468 (wrap64 (x14_3 + 1)))) else (abugidalaw17_FormsPlaces.l3 k3 t462 t463 t464 x6_1 t468 (wrap64 (x14_3 + 1)))) else (some false)) else (if ((t476 == 12) == (t478 == 12)) = true then (if (rd t468 (ji40)) ≥ (rd t468 x14_3) then (some false) else (abugidalaw17_FormsPlaces.l3 k3 t462 t463 t464 x6_1 t468 (wrap64 (x14_3 + 1)))) else (abugidalaw17_FormsPlaces.l3 k3 t462 t463 t464 x6_1 t468 (wrap64 (x14_3 + 1)))))) else (none)) else (none)) else (none))) else (none)) else (none)) else (none)) else (none)) = some r := by first | (rw [hji40] at H; exact H) | (simp only [hji40] at H ⊢; exact H)
                            have hji40w : (IntKind.i64.wrap (x14_3 - 1)) = ji40 := (i64_w _).trans hji40
                            by_cases c41 : 0 ≤ (ji40)
                            · rw [if_pos c41] at H
                              have c41b0 : decide (0 ≤ (ji40)) = true := decide_eq_true c41
                              clear c41
                              by_cases c42 : (ji40) < (t468.length : Int)
                              · rw [if_pos c42] at H
                                have c42b0 : decide ((ji40) < (t468.length : Int)) = true := decide_eq_true c42
                                clear c42
                                by_cases c43 : 0 ≤ (rd t468 (ji40))
                                · rw [if_pos c43] at H
                                  have c43b0 : decide (0 ≤ (rd t468 (ji40))) = true := decide_eq_true c43
                                  clear c43
                                  by_cases c44 : (rd t468 (ji40)) < (t463.size : Int)
                                  · rw [if_pos c44] at H
                                    have c44b0 : decide ((rd t468 (ji40)) < (t463.size : Int)) = true := decide_eq_true c44
                                    clear c44
                                    replace H := Option.bind_eq_some_iff.mp H
                                    obtain ⟨t476, A460, H⟩ := H
                                    replace H : (if 0 ≤ x14_3 then (if 0 ≤ (rd t468 x14_3) then (if (rd t468 x14_3) < (t463.size : Int) then ((chars_Class.f k3 (wrap64 (bt t463 (rd t468 x14_3)))).bind fun t478 => (if t478 = 12 then (if t476 = 12 then (if ((t476 == 12) == (t478 == 12)) = true then (if (rd t468 (ji40)) ≥ (rd t468 x14_3) then (some false) else (abugidalaw17_FormsPlaces.l3 k3 t462 t463 t464 x6_1 t468 (wrap64 (x14_3 + 1)))) else (abugidalaw17_FormsPlaces.l3 k3 t462 t463 t464 x6_1 t468 (wrap64 (x14_3 + 1)))) else (some false)) else (if ((t476 == 12) == (t478 == 12)) = true then (if (rd t468 (ji40)) ≥ (rd t468 x14_3) then (some false) else (abugidalaw17_FormsPlaces.l3 k3 t462 t463 t464 x6_1 t468 (wrap64 (x14_3 + 1)))) else (abugidalaw17_FormsPlaces.l3 k3 t462 t463 t464 x6_1 t468 (wrap64 (x14_3 + 1)))))) else (none)) else (none)) else (none)) = some r := H
                                    have A46 := Aside0.mk A460
                                    clear A460
                                    by_cases c47 : 0 ≤ x14_3
                                    · rw [if_pos c47] at H
                                      have c47b0 : decide (0 ≤ x14_3) = true := decide_eq_true c47
                                      clear c47
                                      by_cases c48 : 0 ≤ (rd t468 x14_3)
                                      · rw [if_pos c48] at H
                                        have c48b0 : decide (0 ≤ (rd t468 x14_3)) = true := decide_eq_true c48
                                        clear c48
                                        by_cases c49 : (rd t468 x14_3) < (t463.size : Int)
                                        · rw [if_pos c49] at H
                                          have c49b0 : decide ((rd t468 x14_3) < (t463.size : Int)) = true := decide_eq_true c49
                                          clear c49
                                          replace H := Option.bind_eq_some_iff.mp H
                                          obtain ⟨t478, A510, H⟩ := H
                                          replace H : (if t478 = 12 then (if t476 = 12 then (if ((t476 == 12) == (t478 == 12)) = true then (if (rd t468 (ji40)) ≥ (rd t468 x14_3) then (some false) else (abugidalaw17_FormsPlaces.l3 k3 t462 t463 t464 x6_1 t468 (wrap64 (x14_3 + 1)))) else (abugidalaw17_FormsPlaces.l3 k3 t462 t463 t464 x6_1 t468 (wrap64 (x14_3 + 1)))) else (some false)) else (if ((t476 == 12) == (t478 == 12)) = true then (if (rd t468 (ji40)) ≥ (rd t468 x14_3) then (some false) else (abugidalaw17_FormsPlaces.l3 k3 t462 t463 t464 x6_1 t468 (wrap64 (x14_3 + 1)))) else (abugidalaw17_FormsPlaces.l3 k3 t462 t463 t464 x6_1 t468 (wrap64 (x14_3 + 1))))) = some r := H
                                          have A51 := Aside0.mk A510
                                          clear A510
                                          by_cases c52 : t478 = 12
                                          · rw [if_pos c52] at H
                                            have c52b0 : (t478 == 12) = true := beq_iff_eq.mpr c52
                                            have c52b1 : (t478 != 12) = false := bne_eq_false_iff_eq.mpr c52
                                            clear c52
                                            by_cases c53 : t476 = 12
                                            · rw [if_pos c53] at H
                                              have c53b0 : (t476 == 12) = true := beq_iff_eq.mpr c53
                                              have c53b1 : (t476 != 12) = false := bne_eq_false_iff_eq.mpr c53
                                              clear c53
                                              by_cases c54 : ((t476 == 12) == (t478 == 12)) = true
                                              · rw [if_pos c54] at H
                                                have c54b0 : ((t476 == 12) == (t478 == 12)) = true := c54
                                                (try (have c54b1 : decide ((t476 == 12) = (t478 == 12)) = true := by simpa using c54))
                                                (try (have c54b2 : ((t476 == 12) == (t478 == 12)) = true := by simpa using c54))
                                                clear c54
                                                by_cases c55 : (rd t468 (ji40)) ≥ (rd t468 x14_3)
                                                · rw [if_pos c55] at H
                                                  have c55b0 : decide ((rd t468 x14_3) ≤ (rd t468 (ji40))) = true := decide_eq_true c55
                                                  clear c55
                                                  obtain rfl := Option.some.inj H
                                                  have p475 : 0 ≤ ((ji40) : Int) := of_decide_eq_true (by first | (with_reducible assumption) | assumption)
                                                  have q475 : (ji40) < (t468.length : Int) := of_decide_eq_true (by first | (with_reducible assumption) | assumption)
                                                  obtain ⟨ad475, e475, hx475_0⟩ := Kd.at_int (Kd.R_reads' HO_7.out).2.2 (ji40) p475 q475
                                                  cases e475
                                                  replace p475 := eq_true p475
                                                  replace q475 := eq_true q475
                                                  have p45 : 0 ≤ ((rd t468 (ji40)) : Int) := of_decide_eq_true (by first | (with_reducible assumption) | assumption)
                                                  have q45 : (rd t468 (ji40)) < (t463.size : Int) := of_decide_eq_true (by first | (with_reducible assumption) | assumption)
                                                  have hx45 := bt_at t463 (rd t468 (ji40))
                                                  replace p45 := eq_true p45
                                                  replace q45 := eq_true q45
                                                  go_wp2_with (first | (go_at_call 22; (with_reducible refine (chars_Class.calls k3 (wrap64 (bt t463 (rd t468 (ji40)))) t476 _ A46.out).mono ?_); rintro e w56 ⟨rfl, hb⟩; have n0_ := Aside0.mk (Kd.R_below (by (with_reducible repeat (first | apply Kd.R_alloc | apply Kd.R_drewN | apply Kd.R_drew)); exact HO_5.out) hb); have n1_ := Aside0.mk (Kd.R_below (by (with_reducible repeat (first | apply Kd.R_alloc | apply Kd.R_drewN | apply Kd.R_drew)); exact HO_7.out) hb); have n2_ := Aside0.mk (below_step (by repeat (first | (with_reducible first | exact HB.out | apply below_alloc | apply pw_below_drewN | apply below_drew1) | exact HB.out)) hb); clear HO_5; clear HO_7; clear HB; have HO_5 := n0_; have HO_7 := n1_; have HB := n2_; clear n0_ n1_ n2_; (try clear hb); (try clear hb2); (try clear hk); (try clear hi); have p477 : 0 ≤ (x14_3 : Int) := of_decide_eq_true (by first | (with_reducible assumption) | assumption); have q477 : x14_3 < (t468.length : Int) := of_decide_eq_true (by first | (with_reducible assumption) | assumption); obtain ⟨ad477, e477, hx477_0⟩ := Kd.at_int (Kd.R_reads' HO_7.out).2.2 x14_3 p477 q477; obtain rfl : ad475 = ad477 := (by injection e477); replace p477 := eq_true p477; replace q477 := eq_true q477; have p50 : 0 ≤ ((rd t468 x14_3) : Int) := of_decide_eq_true (by first | (with_reducible assumption) | assumption); have q50 : (rd t468 x14_3) < (t463.size : Int) := of_decide_eq_true (by first | (with_reducible assumption) | assumption); have hx50 := bt_at t463 (rd t468 x14_3); replace p50 := eq_true p50; replace q50 := eq_true q50) | (go_at_call 22; (with_reducible refine (chars_Class.calls k3 (wrap64 (bt t463 (rd t468 x14_3))) t478 _ A51.out).mono ?_); rintro e w57 ⟨rfl, hb⟩; have n0_ := Aside0.mk (Kd.R_below (by (with_reducible repeat (first | apply Kd.R_alloc | apply Kd.R_drewN | apply Kd.R_drew)); exact HO_5.out) hb); have n1_ := Aside0.mk (Kd.R_below (by (with_reducible repeat (first | apply Kd.R_alloc | apply Kd.R_drewN | apply Kd.R_drew)); exact HO_7.out) hb); have n2_ := Aside0.mk (below_step (by repeat (first | (with_reducible first | exact HB.out | apply below_alloc | apply pw_below_drewN | apply below_drew1) | exact HB.out)) hb); clear HO_5; clear HO_7; clear HB; have HO_5 := n0_; have HO_7 := n1_; have HB := n2_; clear n0_ n1_ n2_; (try clear hb); (try clear hb2); (try clear hk); (try clear hi); have p479 : 0 ≤ ((ji40) : Int) := of_decide_eq_true (by first | (with_reducible assumption) | assumption); have q479 : (ji40) < (t468.length : Int) := of_decide_eq_true (by first | (with_reducible assumption) | assumption); obtain ⟨ad479, e479, hx479_0⟩ := Kd.at_int (Kd.R_reads' HO_7.out).2.2 (ji40) p479 q479; obtain rfl : ad475 = ad479 := (by injection e479); replace p479 := eq_true p479; replace q479 := eq_true q479; have p480 : 0 ≤ (x14_3 : Int) := of_decide_eq_true (by first | (with_reducible assumption) | assumption); have q480 : x14_3 < (t468.length : Int) := of_decide_eq_true (by first | (with_reducible assumption) | assumption); obtain ⟨ad480, e480, hx480_0⟩ := Kd.at_int (Kd.R_reads' HO_7.out).2.2 x14_3 p480 q480; obtain rfl : ad475 = ad480 := (by injection e480); replace p480 := eq_true p480; replace q480 := eq_true q480))
                                                  repeat (go_quiet (first | (go_at_call 22; (with_reducible refine (chars_Class.calls k3 (wrap64 (bt t463 (rd t468 (ji40)))) t476 _ A46.out).mono ?_); rintro e w56 ⟨rfl, hb⟩; have n0_ := Aside0.mk (Kd.R_below (by (with_reducible repeat (first | apply Kd.R_alloc | apply Kd.R_drewN | apply Kd.R_drew)); exact HO_5.out) hb); have n1_ := Aside0.mk (Kd.R_below (by (with_reducible repeat (first | apply Kd.R_alloc | apply Kd.R_drewN | apply Kd.R_drew)); exact HO_7.out) hb); have n2_ := Aside0.mk (below_step (by repeat (first | (with_reducible first | exact HB.out | apply below_alloc | apply pw_below_drewN | apply below_drew1) | exact HB.out)) hb); clear HO_5; clear HO_7; clear HB; have HO_5 := n0_; have HO_7 := n1_; have HB := n2_; clear n0_ n1_ n2_; (try clear hb); (try clear hb2); (try clear hk); (try clear hi); have p477 : 0 ≤ (x14_3 : Int) := of_decide_eq_true (by first | (with_reducible assumption) | assumption); have q477 : x14_3 < (t468.length : Int) := of_decide_eq_true (by first | (with_reducible assumption) | assumption); obtain ⟨ad477, e477, hx477_0⟩ := Kd.at_int (Kd.R_reads' HO_7.out).2.2 x14_3 p477 q477; obtain rfl : ad475 = ad477 := (by injection e477); replace p477 := eq_true p477; replace q477 := eq_true q477; have p50 : 0 ≤ ((rd t468 x14_3) : Int) := of_decide_eq_true (by first | (with_reducible assumption) | assumption); have q50 : (rd t468 x14_3) < (t463.size : Int) := of_decide_eq_true (by first | (with_reducible assumption) | assumption); have hx50 := bt_at t463 (rd t468 x14_3); replace p50 := eq_true p50; replace q50 := eq_true q50) | (go_at_call 22; (with_reducible refine (chars_Class.calls k3 (wrap64 (bt t463 (rd t468 x14_3))) t478 _ A51.out).mono ?_); rintro e w57 ⟨rfl, hb⟩; have n0_ := Aside0.mk (Kd.R_below (by (with_reducible repeat (first | apply Kd.R_alloc | apply Kd.R_drewN | apply Kd.R_drew)); exact HO_5.out) hb); have n1_ := Aside0.mk (Kd.R_below (by (with_reducible repeat (first | apply Kd.R_alloc | apply Kd.R_drewN | apply Kd.R_drew)); exact HO_7.out) hb); have n2_ := Aside0.mk (below_step (by repeat (first | (with_reducible first | exact HB.out | apply below_alloc | apply pw_below_drewN | apply below_drew1) | exact HB.out)) hb); clear HO_5; clear HO_7; clear HB; have HO_5 := n0_; have HO_7 := n1_; have HB := n2_; clear n0_ n1_ n2_; (try clear hb); (try clear hb2); (try clear hk); (try clear hi); have p479 : 0 ≤ ((ji40) : Int) := of_decide_eq_true (by first | (with_reducible assumption) | assumption); have q479 : (ji40) < (t468.length : Int) := of_decide_eq_true (by first | (with_reducible assumption) | assumption); obtain ⟨ad479, e479, hx479_0⟩ := Kd.at_int (Kd.R_reads' HO_7.out).2.2 (ji40) p479 q479; obtain rfl : ad475 = ad479 := (by injection e479); replace p479 := eq_true p479; replace q479 := eq_true q479; have p480 : 0 ≤ (x14_3 : Int) := of_decide_eq_true (by first | (with_reducible assumption) | assumption); have q480 : x14_3 < (t468.length : Int) := of_decide_eq_true (by first | (with_reducible assumption) | assumption); obtain ⟨ad480, e480, hx480_0⟩ := Kd.at_int (Kd.R_reads' HO_7.out).2.2 x14_3 p480 q480; obtain rfl : ad475 = ad480 := (by injection e480); replace p480 := eq_true p480; replace q480 := eq_true q480)); try go_wp2_with (first | (go_at_call 22; (with_reducible refine (chars_Class.calls k3 (wrap64 (bt t463 (rd t468 (ji40)))) t476 _ A46.out).mono ?_); rintro e w56 ⟨rfl, hb⟩; have n0_ := Aside0.mk (Kd.R_below (by (with_reducible repeat (first | apply Kd.R_alloc | apply Kd.R_drewN | apply Kd.R_drew)); exact HO_5.out) hb); have n1_ := Aside0.mk (Kd.R_below (by (with_reducible repeat (first | apply Kd.R_alloc | apply Kd.R_drewN | apply Kd.R_drew)); exact HO_7.out) hb); have n2_ := Aside0.mk (below_step (by repeat (first | (with_reducible first | exact HB.out | apply below_alloc | apply pw_below_drewN | apply below_drew1) | exact HB.out)) hb); clear HO_5; clear HO_7; clear HB; have HO_5 := n0_; have HO_7 := n1_; have HB := n2_; clear n0_ n1_ n2_; (try clear hb); (try clear hb2); (try clear hk); (try clear hi); have p477 : 0 ≤ (x14_3 : Int) := of_decide_eq_true (by first | (with_reducible assumption) | assumption); have q477 : x14_3 < (t468.length : Int) := of_decide_eq_true (by first | (with_reducible assumption) | assumption); obtain ⟨ad477, e477, hx477_0⟩ := Kd.at_int (Kd.R_reads' HO_7.out).2.2 x14_3 p477 q477; obtain rfl : ad475 = ad477 := (by injection e477); replace p477 := eq_true p477; replace q477 := eq_true q477; have p50 : 0 ≤ ((rd t468 x14_3) : Int) := of_decide_eq_true (by first | (with_reducible assumption) | assumption); have q50 : (rd t468 x14_3) < (t463.size : Int) := of_decide_eq_true (by first | (with_reducible assumption) | assumption); have hx50 := bt_at t463 (rd t468 x14_3); replace p50 := eq_true p50; replace q50 := eq_true q50) | (go_at_call 22; (with_reducible refine (chars_Class.calls k3 (wrap64 (bt t463 (rd t468 x14_3))) t478 _ A51.out).mono ?_); rintro e w57 ⟨rfl, hb⟩; have n0_ := Aside0.mk (Kd.R_below (by (with_reducible repeat (first | apply Kd.R_alloc | apply Kd.R_drewN | apply Kd.R_drew)); exact HO_5.out) hb); have n1_ := Aside0.mk (Kd.R_below (by (with_reducible repeat (first | apply Kd.R_alloc | apply Kd.R_drewN | apply Kd.R_drew)); exact HO_7.out) hb); have n2_ := Aside0.mk (below_step (by repeat (first | (with_reducible first | exact HB.out | apply below_alloc | apply pw_below_drewN | apply below_drew1) | exact HB.out)) hb); clear HO_5; clear HO_7; clear HB; have HO_5 := n0_; have HO_7 := n1_; have HB := n2_; clear n0_ n1_ n2_; (try clear hb); (try clear hb2); (try clear hk); (try clear hi); have p479 : 0 ≤ ((ji40) : Int) := of_decide_eq_true (by first | (with_reducible assumption) | assumption); have q479 : (ji40) < (t468.length : Int) := of_decide_eq_true (by first | (with_reducible assumption) | assumption); obtain ⟨ad479, e479, hx479_0⟩ := Kd.at_int (Kd.R_reads' HO_7.out).2.2 (ji40) p479 q479; obtain rfl : ad475 = ad479 := (by injection e479); replace p479 := eq_true p479; replace q479 := eq_true q479; have p480 : 0 ≤ (x14_3 : Int) := of_decide_eq_true (by first | (with_reducible assumption) | assumption); have q480 : x14_3 < (t468.length : Int) := of_decide_eq_true (by first | (with_reducible assumption) | assumption); obtain ⟨ad480, e480, hx480_0⟩ := Kd.at_int (Kd.R_reads' HO_7.out).2.2 x14_3 p480 q480; obtain rfl : ad475 = ad480 := (by injection e480); replace p480 := eq_true p480; replace q480 := eq_true q480)))
                                                  go_ret
                                                  exact ⟨by first | rfl | (simp [errW_none, errW_some] <;> rfl) | (simp only [← hji40]; first | rfl | (simp [errW_none, errW_some] <;> rfl)) | (simp [*, errW_none, errW_some] <;> rfl), by repeat (first | (with_reducible first | exact HB.out | apply below_alloc | apply pw_below_drewN | apply below_drew1) | exact HB.out)⟩
                                                · rw [if_neg c55] at H
                                                  have c55b0 : decide ((rd t468 x14_3) ≤ (rd t468 (ji40))) = false := decide_eq_false c55
                                                  clear c55
                                                  have H' := Aside0.mk H
                                                  clear H
                                                  have p475 : 0 ≤ ((ji40) : Int) := of_decide_eq_true (by first | (with_reducible assumption) | assumption)
                                                  have q475 : (ji40) < (t468.length : Int) := of_decide_eq_true (by first | (with_reducible assumption) | assumption)
                                                  obtain ⟨ad475, e475, hx475_0⟩ := Kd.at_int (Kd.R_reads' HO_7.out).2.2 (ji40) p475 q475
                                                  cases e475
                                                  replace p475 := eq_true p475
                                                  replace q475 := eq_true q475
                                                  have p45 : 0 ≤ ((rd t468 (ji40)) : Int) := of_decide_eq_true (by first | (with_reducible assumption) | assumption)
                                                  have q45 : (rd t468 (ji40)) < (t463.size : Int) := of_decide_eq_true (by first | (with_reducible assumption) | assumption)
                                                  have hx45 := bt_at t463 (rd t468 (ji40))
                                                  replace p45 := eq_true p45
                                                  replace q45 := eq_true q45
                                                  go_wp2_with (first | (go_at_call 22; (with_reducible refine (chars_Class.calls k3 (wrap64 (bt t463 (rd t468 (ji40)))) t476 _ A46.out).mono ?_); rintro e w58 ⟨rfl, hb⟩; have n0_ := Aside0.mk (Kd.R_below (by (with_reducible repeat (first | apply Kd.R_alloc | apply Kd.R_drewN | apply Kd.R_drew)); exact HO_5.out) hb); have n1_ := Aside0.mk (Kd.R_below (by (with_reducible repeat (first | apply Kd.R_alloc | apply Kd.R_drewN | apply Kd.R_drew)); exact HO_7.out) hb); have n2_ := Aside0.mk (below_step (by repeat (first | (with_reducible first | exact HB.out | apply below_alloc | apply pw_below_drewN | apply below_drew1) | exact HB.out)) hb); clear HO_5; clear HO_7; clear HB; have HO_5 := n0_; have HO_7 := n1_; have HB := n2_; clear n0_ n1_ n2_; (try clear hb); (try clear hb2); (try clear hk); (try clear hi); have p477 : 0 ≤ (x14_3 : Int) := of_decide_eq_true (by first | (with_reducible assumption) | assumption); have q477 : x14_3 < (t468.length : Int) := of_decide_eq_true (by first | (with_reducible assumption) | assumption); obtain ⟨ad477, e477, hx477_0⟩ := Kd.at_int (Kd.R_reads' HO_7.out).2.2 x14_3 p477 q477; obtain rfl : ad475 = ad477 := (by injection e477); replace p477 := eq_true p477; replace q477 := eq_true q477; have p50 : 0 ≤ ((rd t468 x14_3) : Int) := of_decide_eq_true (by first | (with_reducible assumption) | assumption); have q50 : (rd t468 x14_3) < (t463.size : Int) := of_decide_eq_true (by first | (with_reducible assumption) | assumption); have hx50 := bt_at t463 (rd t468 x14_3); replace p50 := eq_true p50; replace q50 := eq_true q50) | (go_at_call 22; (with_reducible refine (chars_Class.calls k3 (wrap64 (bt t463 (rd t468 x14_3))) t478 _ A51.out).mono ?_); rintro e w59 ⟨rfl, hb⟩; have n0_ := Aside0.mk (Kd.R_below (by (with_reducible repeat (first | apply Kd.R_alloc | apply Kd.R_drewN | apply Kd.R_drew)); exact HO_5.out) hb); have n1_ := Aside0.mk (Kd.R_below (by (with_reducible repeat (first | apply Kd.R_alloc | apply Kd.R_drewN | apply Kd.R_drew)); exact HO_7.out) hb); have n2_ := Aside0.mk (below_step (by repeat (first | (with_reducible first | exact HB.out | apply below_alloc | apply pw_below_drewN | apply below_drew1) | exact HB.out)) hb); clear HO_5; clear HO_7; clear HB; have HO_5 := n0_; have HO_7 := n1_; have HB := n2_; clear n0_ n1_ n2_; (try clear hb); (try clear hb2); (try clear hk); (try clear hi); have p479 : 0 ≤ ((ji40) : Int) := of_decide_eq_true (by first | (with_reducible assumption) | assumption); have q479 : (ji40) < (t468.length : Int) := of_decide_eq_true (by first | (with_reducible assumption) | assumption); obtain ⟨ad479, e479, hx479_0⟩ := Kd.at_int (Kd.R_reads' HO_7.out).2.2 (ji40) p479 q479; obtain rfl : ad475 = ad479 := (by injection e479); replace p479 := eq_true p479; replace q479 := eq_true q479; have p480 : 0 ≤ (x14_3 : Int) := of_decide_eq_true (by first | (with_reducible assumption) | assumption); have q480 : x14_3 < (t468.length : Int) := of_decide_eq_true (by first | (with_reducible assumption) | assumption); obtain ⟨ad480, e480, hx480_0⟩ := Kd.at_int (Kd.R_reads' HO_7.out).2.2 x14_3 p480 q480; obtain rfl : ad475 = ad480 := (by injection e480); replace p480 := eq_true p480; replace q480 := eq_true q480))
                                                  repeat (go_quiet (first | (go_at_call 22; (with_reducible refine (chars_Class.calls k3 (wrap64 (bt t463 (rd t468 (ji40)))) t476 _ A46.out).mono ?_); rintro e w58 ⟨rfl, hb⟩; have n0_ := Aside0.mk (Kd.R_below (by (with_reducible repeat (first | apply Kd.R_alloc | apply Kd.R_drewN | apply Kd.R_drew)); exact HO_5.out) hb); have n1_ := Aside0.mk (Kd.R_below (by (with_reducible repeat (first | apply Kd.R_alloc | apply Kd.R_drewN | apply Kd.R_drew)); exact HO_7.out) hb); have n2_ := Aside0.mk (below_step (by repeat (first | (with_reducible first | exact HB.out | apply below_alloc | apply pw_below_drewN | apply below_drew1) | exact HB.out)) hb); clear HO_5; clear HO_7; clear HB; have HO_5 := n0_; have HO_7 := n1_; have HB := n2_; clear n0_ n1_ n2_; (try clear hb); (try clear hb2); (try clear hk); (try clear hi); have p477 : 0 ≤ (x14_3 : Int) := of_decide_eq_true (by first | (with_reducible assumption) | assumption); have q477 : x14_3 < (t468.length : Int) := of_decide_eq_true (by first | (with_reducible assumption) | assumption); obtain ⟨ad477, e477, hx477_0⟩ := Kd.at_int (Kd.R_reads' HO_7.out).2.2 x14_3 p477 q477; obtain rfl : ad475 = ad477 := (by injection e477); replace p477 := eq_true p477; replace q477 := eq_true q477; have p50 : 0 ≤ ((rd t468 x14_3) : Int) := of_decide_eq_true (by first | (with_reducible assumption) | assumption); have q50 : (rd t468 x14_3) < (t463.size : Int) := of_decide_eq_true (by first | (with_reducible assumption) | assumption); have hx50 := bt_at t463 (rd t468 x14_3); replace p50 := eq_true p50; replace q50 := eq_true q50) | (go_at_call 22; (with_reducible refine (chars_Class.calls k3 (wrap64 (bt t463 (rd t468 x14_3))) t478 _ A51.out).mono ?_); rintro e w59 ⟨rfl, hb⟩; have n0_ := Aside0.mk (Kd.R_below (by (with_reducible repeat (first | apply Kd.R_alloc | apply Kd.R_drewN | apply Kd.R_drew)); exact HO_5.out) hb); have n1_ := Aside0.mk (Kd.R_below (by (with_reducible repeat (first | apply Kd.R_alloc | apply Kd.R_drewN | apply Kd.R_drew)); exact HO_7.out) hb); have n2_ := Aside0.mk (below_step (by repeat (first | (with_reducible first | exact HB.out | apply below_alloc | apply pw_below_drewN | apply below_drew1) | exact HB.out)) hb); clear HO_5; clear HO_7; clear HB; have HO_5 := n0_; have HO_7 := n1_; have HB := n2_; clear n0_ n1_ n2_; (try clear hb); (try clear hb2); (try clear hk); (try clear hi); have p479 : 0 ≤ ((ji40) : Int) := of_decide_eq_true (by first | (with_reducible assumption) | assumption); have q479 : (ji40) < (t468.length : Int) := of_decide_eq_true (by first | (with_reducible assumption) | assumption); obtain ⟨ad479, e479, hx479_0⟩ := Kd.at_int (Kd.R_reads' HO_7.out).2.2 (ji40) p479 q479; obtain rfl : ad475 = ad479 := (by injection e479); replace p479 := eq_true p479; replace q479 := eq_true q479; have p480 : 0 ≤ (x14_3 : Int) := of_decide_eq_true (by first | (with_reducible assumption) | assumption); have q480 : x14_3 < (t468.length : Int) := of_decide_eq_true (by first | (with_reducible assumption) | assumption); obtain ⟨ad480, e480, hx480_0⟩ := Kd.at_int (Kd.R_reads' HO_7.out).2.2 x14_3 p480 q480; obtain rfl : ad475 = ad480 := (by injection e480); replace p480 := eq_true p480; replace q480 := eq_true q480)); try go_wp2_with (first | (go_at_call 22; (with_reducible refine (chars_Class.calls k3 (wrap64 (bt t463 (rd t468 (ji40)))) t476 _ A46.out).mono ?_); rintro e w58 ⟨rfl, hb⟩; have n0_ := Aside0.mk (Kd.R_below (by (with_reducible repeat (first | apply Kd.R_alloc | apply Kd.R_drewN | apply Kd.R_drew)); exact HO_5.out) hb); have n1_ := Aside0.mk (Kd.R_below (by (with_reducible repeat (first | apply Kd.R_alloc | apply Kd.R_drewN | apply Kd.R_drew)); exact HO_7.out) hb); have n2_ := Aside0.mk (below_step (by repeat (first | (with_reducible first | exact HB.out | apply below_alloc | apply pw_below_drewN | apply below_drew1) | exact HB.out)) hb); clear HO_5; clear HO_7; clear HB; have HO_5 := n0_; have HO_7 := n1_; have HB := n2_; clear n0_ n1_ n2_; (try clear hb); (try clear hb2); (try clear hk); (try clear hi); have p477 : 0 ≤ (x14_3 : Int) := of_decide_eq_true (by first | (with_reducible assumption) | assumption); have q477 : x14_3 < (t468.length : Int) := of_decide_eq_true (by first | (with_reducible assumption) | assumption); obtain ⟨ad477, e477, hx477_0⟩ := Kd.at_int (Kd.R_reads' HO_7.out).2.2 x14_3 p477 q477; obtain rfl : ad475 = ad477 := (by injection e477); replace p477 := eq_true p477; replace q477 := eq_true q477; have p50 : 0 ≤ ((rd t468 x14_3) : Int) := of_decide_eq_true (by first | (with_reducible assumption) | assumption); have q50 : (rd t468 x14_3) < (t463.size : Int) := of_decide_eq_true (by first | (with_reducible assumption) | assumption); have hx50 := bt_at t463 (rd t468 x14_3); replace p50 := eq_true p50; replace q50 := eq_true q50) | (go_at_call 22; (with_reducible refine (chars_Class.calls k3 (wrap64 (bt t463 (rd t468 x14_3))) t478 _ A51.out).mono ?_); rintro e w59 ⟨rfl, hb⟩; have n0_ := Aside0.mk (Kd.R_below (by (with_reducible repeat (first | apply Kd.R_alloc | apply Kd.R_drewN | apply Kd.R_drew)); exact HO_5.out) hb); have n1_ := Aside0.mk (Kd.R_below (by (with_reducible repeat (first | apply Kd.R_alloc | apply Kd.R_drewN | apply Kd.R_drew)); exact HO_7.out) hb); have n2_ := Aside0.mk (below_step (by repeat (first | (with_reducible first | exact HB.out | apply below_alloc | apply pw_below_drewN | apply below_drew1) | exact HB.out)) hb); clear HO_5; clear HO_7; clear HB; have HO_5 := n0_; have HO_7 := n1_; have HB := n2_; clear n0_ n1_ n2_; (try clear hb); (try clear hb2); (try clear hk); (try clear hi); have p479 : 0 ≤ ((ji40) : Int) := of_decide_eq_true (by first | (with_reducible assumption) | assumption); have q479 : (ji40) < (t468.length : Int) := of_decide_eq_true (by first | (with_reducible assumption) | assumption); obtain ⟨ad479, e479, hx479_0⟩ := Kd.at_int (Kd.R_reads' HO_7.out).2.2 (ji40) p479 q479; obtain rfl : ad475 = ad479 := (by injection e479); replace p479 := eq_true p479; replace q479 := eq_true q479; have p480 : 0 ≤ (x14_3 : Int) := of_decide_eq_true (by first | (with_reducible assumption) | assumption); have q480 : x14_3 < (t468.length : Int) := of_decide_eq_true (by first | (with_reducible assumption) | assumption); obtain ⟨ad480, e480, hx480_0⟩ := Kd.at_int (Kd.R_reads' HO_7.out).2.2 x14_3 p480 q480; obtain rfl : ad475 = ad480 := (by injection e480); replace p480 := eq_true p480; replace q480 := eq_true q480)))
                                                  go_roundg k3
                                                  case measure => have := HK1.out; have := HK2.out; have := HK3.out; omega
                                                  case rel => exact ⟨(wrap64 (x14_3 + 1)), (by first | rfl | (simp; done) | (simp [*]; done)), H', ⟨by have := HK1.out; have := HK2.out; have := HK3.out; omega⟩, ⟨by (with_reducible repeat (first | apply Kd.R_alloc | apply Kd.R_drewN | apply Kd.R_drew)); exact HO_5.out⟩, ⟨by (with_reducible repeat (first | apply Kd.R_alloc | apply Kd.R_drewN | apply Kd.R_drew)); exact HO_7.out⟩, ⟨by repeat (first | (with_reducible first | exact HB.out | apply below_alloc | apply pw_below_drewN | apply below_drew1) | exact HB.out)⟩⟩
                                              · exact absurd (show ((t476 == 12) == (t478 == 12)) = true by rw [c52b0, c53b0]; rfl) c54
                                            · rw [if_neg c53] at H
                                              have c53b0 : (t476 == 12) = false := beq_eq_false_iff_ne.mpr c53
                                              have c53b1 : (t476 != 12) = true := bne_iff_ne.mpr c53
                                              obtain rfl := Option.some.inj H
                                              have p475 : 0 ≤ ((ji40) : Int) := of_decide_eq_true (by first | (with_reducible assumption) | assumption)
                                              have q475 : (ji40) < (t468.length : Int) := of_decide_eq_true (by first | (with_reducible assumption) | assumption)
                                              obtain ⟨ad475, e475, hx475_0⟩ := Kd.at_int (Kd.R_reads' HO_7.out).2.2 (ji40) p475 q475
                                              cases e475
                                              replace p475 := eq_true p475
                                              replace q475 := eq_true q475
                                              have p45 : 0 ≤ ((rd t468 (ji40)) : Int) := of_decide_eq_true (by first | (with_reducible assumption) | assumption)
                                              have q45 : (rd t468 (ji40)) < (t463.size : Int) := of_decide_eq_true (by first | (with_reducible assumption) | assumption)
                                              have hx45 := bt_at t463 (rd t468 (ji40))
                                              replace p45 := eq_true p45
                                              replace q45 := eq_true q45
                                              go_wp2_with (first | (go_at_call 22; (with_reducible refine (chars_Class.calls k3 (wrap64 (bt t463 (rd t468 (ji40)))) t476 _ A46.out).mono ?_); rintro e w62 ⟨rfl, hb⟩; have n0_ := Aside0.mk (Kd.R_below (by (with_reducible repeat (first | apply Kd.R_alloc | apply Kd.R_drewN | apply Kd.R_drew)); exact HO_5.out) hb); have n1_ := Aside0.mk (Kd.R_below (by (with_reducible repeat (first | apply Kd.R_alloc | apply Kd.R_drewN | apply Kd.R_drew)); exact HO_7.out) hb); have n2_ := Aside0.mk (below_step (by repeat (first | (with_reducible first | exact HB.out | apply below_alloc | apply pw_below_drewN | apply below_drew1) | exact HB.out)) hb); clear HO_5; clear HO_7; clear HB; have HO_5 := n0_; have HO_7 := n1_; have HB := n2_; clear n0_ n1_ n2_; (try clear hb); (try clear hb2); (try clear hk); (try clear hi); have p477 : 0 ≤ (x14_3 : Int) := of_decide_eq_true (by first | (with_reducible assumption) | assumption); have q477 : x14_3 < (t468.length : Int) := of_decide_eq_true (by first | (with_reducible assumption) | assumption); obtain ⟨ad477, e477, hx477_0⟩ := Kd.at_int (Kd.R_reads' HO_7.out).2.2 x14_3 p477 q477; obtain rfl : ad475 = ad477 := (by injection e477); replace p477 := eq_true p477; replace q477 := eq_true q477; have p50 : 0 ≤ ((rd t468 x14_3) : Int) := of_decide_eq_true (by first | (with_reducible assumption) | assumption); have q50 : (rd t468 x14_3) < (t463.size : Int) := of_decide_eq_true (by first | (with_reducible assumption) | assumption); have hx50 := bt_at t463 (rd t468 x14_3); replace p50 := eq_true p50; replace q50 := eq_true q50) | (go_at_call 22; (with_reducible refine (chars_Class.calls k3 (wrap64 (bt t463 (rd t468 x14_3))) t478 _ A51.out).mono ?_); rintro e w63 ⟨rfl, hb⟩; have n0_ := Aside0.mk (Kd.R_below (by (with_reducible repeat (first | apply Kd.R_alloc | apply Kd.R_drewN | apply Kd.R_drew)); exact HO_5.out) hb); have n1_ := Aside0.mk (Kd.R_below (by (with_reducible repeat (first | apply Kd.R_alloc | apply Kd.R_drewN | apply Kd.R_drew)); exact HO_7.out) hb); have n2_ := Aside0.mk (below_step (by repeat (first | (with_reducible first | exact HB.out | apply below_alloc | apply pw_below_drewN | apply below_drew1) | exact HB.out)) hb); clear HO_5; clear HO_7; clear HB; have HO_5 := n0_; have HO_7 := n1_; have HB := n2_; clear n0_ n1_ n2_; (try clear hb); (try clear hb2); (try clear hk); (try clear hi)))
                                              repeat (go_quiet (first | (go_at_call 22; (with_reducible refine (chars_Class.calls k3 (wrap64 (bt t463 (rd t468 (ji40)))) t476 _ A46.out).mono ?_); rintro e w62 ⟨rfl, hb⟩; have n0_ := Aside0.mk (Kd.R_below (by (with_reducible repeat (first | apply Kd.R_alloc | apply Kd.R_drewN | apply Kd.R_drew)); exact HO_5.out) hb); have n1_ := Aside0.mk (Kd.R_below (by (with_reducible repeat (first | apply Kd.R_alloc | apply Kd.R_drewN | apply Kd.R_drew)); exact HO_7.out) hb); have n2_ := Aside0.mk (below_step (by repeat (first | (with_reducible first | exact HB.out | apply below_alloc | apply pw_below_drewN | apply below_drew1) | exact HB.out)) hb); clear HO_5; clear HO_7; clear HB; have HO_5 := n0_; have HO_7 := n1_; have HB := n2_; clear n0_ n1_ n2_; (try clear hb); (try clear hb2); (try clear hk); (try clear hi); have p477 : 0 ≤ (x14_3 : Int) := of_decide_eq_true (by first | (with_reducible assumption) | assumption); have q477 : x14_3 < (t468.length : Int) := of_decide_eq_true (by first | (with_reducible assumption) | assumption); obtain ⟨ad477, e477, hx477_0⟩ := Kd.at_int (Kd.R_reads' HO_7.out).2.2 x14_3 p477 q477; obtain rfl : ad475 = ad477 := (by injection e477); replace p477 := eq_true p477; replace q477 := eq_true q477; have p50 : 0 ≤ ((rd t468 x14_3) : Int) := of_decide_eq_true (by first | (with_reducible assumption) | assumption); have q50 : (rd t468 x14_3) < (t463.size : Int) := of_decide_eq_true (by first | (with_reducible assumption) | assumption); have hx50 := bt_at t463 (rd t468 x14_3); replace p50 := eq_true p50; replace q50 := eq_true q50) | (go_at_call 22; (with_reducible refine (chars_Class.calls k3 (wrap64 (bt t463 (rd t468 x14_3))) t478 _ A51.out).mono ?_); rintro e w63 ⟨rfl, hb⟩; have n0_ := Aside0.mk (Kd.R_below (by (with_reducible repeat (first | apply Kd.R_alloc | apply Kd.R_drewN | apply Kd.R_drew)); exact HO_5.out) hb); have n1_ := Aside0.mk (Kd.R_below (by (with_reducible repeat (first | apply Kd.R_alloc | apply Kd.R_drewN | apply Kd.R_drew)); exact HO_7.out) hb); have n2_ := Aside0.mk (below_step (by repeat (first | (with_reducible first | exact HB.out | apply below_alloc | apply pw_below_drewN | apply below_drew1) | exact HB.out)) hb); clear HO_5; clear HO_7; clear HB; have HO_5 := n0_; have HO_7 := n1_; have HB := n2_; clear n0_ n1_ n2_; (try clear hb); (try clear hb2); (try clear hk); (try clear hi))); try go_wp2_with (first | (go_at_call 22; (with_reducible refine (chars_Class.calls k3 (wrap64 (bt t463 (rd t468 (ji40)))) t476 _ A46.out).mono ?_); rintro e w62 ⟨rfl, hb⟩; have n0_ := Aside0.mk (Kd.R_below (by (with_reducible repeat (first | apply Kd.R_alloc | apply Kd.R_drewN | apply Kd.R_drew)); exact HO_5.out) hb); have n1_ := Aside0.mk (Kd.R_below (by (with_reducible repeat (first | apply Kd.R_alloc | apply Kd.R_drewN | apply Kd.R_drew)); exact HO_7.out) hb); have n2_ := Aside0.mk (below_step (by repeat (first | (with_reducible first | exact HB.out | apply below_alloc | apply pw_below_drewN | apply below_drew1) | exact HB.out)) hb); clear HO_5; clear HO_7; clear HB; have HO_5 := n0_; have HO_7 := n1_; have HB := n2_; clear n0_ n1_ n2_; (try clear hb); (try clear hb2); (try clear hk); (try clear hi); have p477 : 0 ≤ (x14_3 : Int) := of_decide_eq_true (by first | (with_reducible assumption) | assumption); have q477 : x14_3 < (t468.length : Int) := of_decide_eq_true (by first | (with_reducible assumption) | assumption); obtain ⟨ad477, e477, hx477_0⟩ := Kd.at_int (Kd.R_reads' HO_7.out).2.2 x14_3 p477 q477; obtain rfl : ad475 = ad477 := (by injection e477); replace p477 := eq_true p477; replace q477 := eq_true q477; have p50 : 0 ≤ ((rd t468 x14_3) : Int) := of_decide_eq_true (by first | (with_reducible assumption) | assumption); have q50 : (rd t468 x14_3) < (t463.size : Int) := of_decide_eq_true (by first | (with_reducible assumption) | assumption); have hx50 := bt_at t463 (rd t468 x14_3); replace p50 := eq_true p50; replace q50 := eq_true q50) | (go_at_call 22; (with_reducible refine (chars_Class.calls k3 (wrap64 (bt t463 (rd t468 x14_3))) t478 _ A51.out).mono ?_); rintro e w63 ⟨rfl, hb⟩; have n0_ := Aside0.mk (Kd.R_below (by (with_reducible repeat (first | apply Kd.R_alloc | apply Kd.R_drewN | apply Kd.R_drew)); exact HO_5.out) hb); have n1_ := Aside0.mk (Kd.R_below (by (with_reducible repeat (first | apply Kd.R_alloc | apply Kd.R_drewN | apply Kd.R_drew)); exact HO_7.out) hb); have n2_ := Aside0.mk (below_step (by repeat (first | (with_reducible first | exact HB.out | apply below_alloc | apply pw_below_drewN | apply below_drew1) | exact HB.out)) hb); clear HO_5; clear HO_7; clear HB; have HO_5 := n0_; have HO_7 := n1_; have HB := n2_; clear n0_ n1_ n2_; (try clear hb); (try clear hb2); (try clear hk); (try clear hi))))
                                              go_ret
                                              exact ⟨by first | rfl | (simp [errW_none, errW_some] <;> rfl) | (simp only [← hji40]; first | rfl | (simp [errW_none, errW_some] <;> rfl)) | (simp [*, errW_none, errW_some] <;> rfl), by repeat (first | (with_reducible first | exact HB.out | apply below_alloc | apply pw_below_drewN | apply below_drew1) | exact HB.out)⟩
                                          · rw [if_neg c52] at H
                                            have c52b0 : (t478 == 12) = false := beq_eq_false_iff_ne.mpr c52
                                            have c52b1 : (t478 != 12) = true := bne_iff_ne.mpr c52
                                            by_cases c64 : ((t476 == 12) == (t478 == 12)) = true
                                            · rw [if_pos c64] at H
                                              have c64b0 : ((t476 == 12) == (t478 == 12)) = true := c64
                                              have c64x : (t476 == 12) = false := by have h_ := c64b0; rw [c52b0] at h_; simpa using h_
                                              (try (have c64b1 : decide ((t476 == 12) = (t478 == 12)) = true := by simpa using c64))
                                              (try (have c64b2 : ((t476 == 12) == (t478 == 12)) = true := by simpa using c64))
                                              clear c64
                                              by_cases c65 : (rd t468 (ji40)) ≥ (rd t468 x14_3)
                                              · rw [if_pos c65] at H
                                                have c65b0 : decide ((rd t468 x14_3) ≤ (rd t468 (ji40))) = true := decide_eq_true c65
                                                clear c65
                                                obtain rfl := Option.some.inj H
                                                have p475 : 0 ≤ ((ji40) : Int) := of_decide_eq_true (by first | (with_reducible assumption) | assumption)
                                                have q475 : (ji40) < (t468.length : Int) := of_decide_eq_true (by first | (with_reducible assumption) | assumption)
                                                obtain ⟨ad475, e475, hx475_0⟩ := Kd.at_int (Kd.R_reads' HO_7.out).2.2 (ji40) p475 q475
                                                cases e475
                                                replace p475 := eq_true p475
                                                replace q475 := eq_true q475
                                                have p45 : 0 ≤ ((rd t468 (ji40)) : Int) := of_decide_eq_true (by first | (with_reducible assumption) | assumption)
                                                have q45 : (rd t468 (ji40)) < (t463.size : Int) := of_decide_eq_true (by first | (with_reducible assumption) | assumption)
                                                have hx45 := bt_at t463 (rd t468 (ji40))
                                                replace p45 := eq_true p45
                                                replace q45 := eq_true q45
                                                go_wp2_with (first | (go_at_call 22; (with_reducible refine (chars_Class.calls k3 (wrap64 (bt t463 (rd t468 (ji40)))) t476 _ A46.out).mono ?_); rintro e w66 ⟨rfl, hb⟩; have n0_ := Aside0.mk (Kd.R_below (by (with_reducible repeat (first | apply Kd.R_alloc | apply Kd.R_drewN | apply Kd.R_drew)); exact HO_5.out) hb); have n1_ := Aside0.mk (Kd.R_below (by (with_reducible repeat (first | apply Kd.R_alloc | apply Kd.R_drewN | apply Kd.R_drew)); exact HO_7.out) hb); have n2_ := Aside0.mk (below_step (by repeat (first | (with_reducible first | exact HB.out | apply below_alloc | apply pw_below_drewN | apply below_drew1) | exact HB.out)) hb); clear HO_5; clear HO_7; clear HB; have HO_5 := n0_; have HO_7 := n1_; have HB := n2_; clear n0_ n1_ n2_; (try clear hb); (try clear hb2); (try clear hk); (try clear hi); have p477 : 0 ≤ (x14_3 : Int) := of_decide_eq_true (by first | (with_reducible assumption) | assumption); have q477 : x14_3 < (t468.length : Int) := of_decide_eq_true (by first | (with_reducible assumption) | assumption); obtain ⟨ad477, e477, hx477_0⟩ := Kd.at_int (Kd.R_reads' HO_7.out).2.2 x14_3 p477 q477; obtain rfl : ad475 = ad477 := (by injection e477); replace p477 := eq_true p477; replace q477 := eq_true q477; have p50 : 0 ≤ ((rd t468 x14_3) : Int) := of_decide_eq_true (by first | (with_reducible assumption) | assumption); have q50 : (rd t468 x14_3) < (t463.size : Int) := of_decide_eq_true (by first | (with_reducible assumption) | assumption); have hx50 := bt_at t463 (rd t468 x14_3); replace p50 := eq_true p50; replace q50 := eq_true q50) | (go_at_call 22; (with_reducible refine (chars_Class.calls k3 (wrap64 (bt t463 (rd t468 x14_3))) t478 _ A51.out).mono ?_); rintro e w67 ⟨rfl, hb⟩; have n0_ := Aside0.mk (Kd.R_below (by (with_reducible repeat (first | apply Kd.R_alloc | apply Kd.R_drewN | apply Kd.R_drew)); exact HO_5.out) hb); have n1_ := Aside0.mk (Kd.R_below (by (with_reducible repeat (first | apply Kd.R_alloc | apply Kd.R_drewN | apply Kd.R_drew)); exact HO_7.out) hb); have n2_ := Aside0.mk (below_step (by repeat (first | (with_reducible first | exact HB.out | apply below_alloc | apply pw_below_drewN | apply below_drew1) | exact HB.out)) hb); clear HO_5; clear HO_7; clear HB; have HO_5 := n0_; have HO_7 := n1_; have HB := n2_; clear n0_ n1_ n2_; (try clear hb); (try clear hb2); (try clear hk); (try clear hi); have p481 : 0 ≤ ((ji40) : Int) := of_decide_eq_true (by first | (with_reducible assumption) | assumption); have q481 : (ji40) < (t468.length : Int) := of_decide_eq_true (by first | (with_reducible assumption) | assumption); obtain ⟨ad481, e481, hx481_0⟩ := Kd.at_int (Kd.R_reads' HO_7.out).2.2 (ji40) p481 q481; obtain rfl : ad475 = ad481 := (by injection e481); replace p481 := eq_true p481; replace q481 := eq_true q481; have p482 : 0 ≤ (x14_3 : Int) := of_decide_eq_true (by first | (with_reducible assumption) | assumption); have q482 : x14_3 < (t468.length : Int) := of_decide_eq_true (by first | (with_reducible assumption) | assumption); obtain ⟨ad482, e482, hx482_0⟩ := Kd.at_int (Kd.R_reads' HO_7.out).2.2 x14_3 p482 q482; obtain rfl : ad475 = ad482 := (by injection e482); replace p482 := eq_true p482; replace q482 := eq_true q482))
                                                repeat (go_quiet (first | (go_at_call 22; (with_reducible refine (chars_Class.calls k3 (wrap64 (bt t463 (rd t468 (ji40)))) t476 _ A46.out).mono ?_); rintro e w66 ⟨rfl, hb⟩; have n0_ := Aside0.mk (Kd.R_below (by (with_reducible repeat (first | apply Kd.R_alloc | apply Kd.R_drewN | apply Kd.R_drew)); exact HO_5.out) hb); have n1_ := Aside0.mk (Kd.R_below (by (with_reducible repeat (first | apply Kd.R_alloc | apply Kd.R_drewN | apply Kd.R_drew)); exact HO_7.out) hb); have n2_ := Aside0.mk (below_step (by repeat (first | (with_reducible first | exact HB.out | apply below_alloc | apply pw_below_drewN | apply below_drew1) | exact HB.out)) hb); clear HO_5; clear HO_7; clear HB; have HO_5 := n0_; have HO_7 := n1_; have HB := n2_; clear n0_ n1_ n2_; (try clear hb); (try clear hb2); (try clear hk); (try clear hi); have p477 : 0 ≤ (x14_3 : Int) := of_decide_eq_true (by first | (with_reducible assumption) | assumption); have q477 : x14_3 < (t468.length : Int) := of_decide_eq_true (by first | (with_reducible assumption) | assumption); obtain ⟨ad477, e477, hx477_0⟩ := Kd.at_int (Kd.R_reads' HO_7.out).2.2 x14_3 p477 q477; obtain rfl : ad475 = ad477 := (by injection e477); replace p477 := eq_true p477; replace q477 := eq_true q477; have p50 : 0 ≤ ((rd t468 x14_3) : Int) := of_decide_eq_true (by first | (with_reducible assumption) | assumption); have q50 : (rd t468 x14_3) < (t463.size : Int) := of_decide_eq_true (by first | (with_reducible assumption) | assumption); have hx50 := bt_at t463 (rd t468 x14_3); replace p50 := eq_true p50; replace q50 := eq_true q50) | (go_at_call 22; (with_reducible refine (chars_Class.calls k3 (wrap64 (bt t463 (rd t468 x14_3))) t478 _ A51.out).mono ?_); rintro e w67 ⟨rfl, hb⟩; have n0_ := Aside0.mk (Kd.R_below (by (with_reducible repeat (first | apply Kd.R_alloc | apply Kd.R_drewN | apply Kd.R_drew)); exact HO_5.out) hb); have n1_ := Aside0.mk (Kd.R_below (by (with_reducible repeat (first | apply Kd.R_alloc | apply Kd.R_drewN | apply Kd.R_drew)); exact HO_7.out) hb); have n2_ := Aside0.mk (below_step (by repeat (first | (with_reducible first | exact HB.out | apply below_alloc | apply pw_below_drewN | apply below_drew1) | exact HB.out)) hb); clear HO_5; clear HO_7; clear HB; have HO_5 := n0_; have HO_7 := n1_; have HB := n2_; clear n0_ n1_ n2_; (try clear hb); (try clear hb2); (try clear hk); (try clear hi); have p481 : 0 ≤ ((ji40) : Int) := of_decide_eq_true (by first | (with_reducible assumption) | assumption); have q481 : (ji40) < (t468.length : Int) := of_decide_eq_true (by first | (with_reducible assumption) | assumption); obtain ⟨ad481, e481, hx481_0⟩ := Kd.at_int (Kd.R_reads' HO_7.out).2.2 (ji40) p481 q481; obtain rfl : ad475 = ad481 := (by injection e481); replace p481 := eq_true p481; replace q481 := eq_true q481; have p482 : 0 ≤ (x14_3 : Int) := of_decide_eq_true (by first | (with_reducible assumption) | assumption); have q482 : x14_3 < (t468.length : Int) := of_decide_eq_true (by first | (with_reducible assumption) | assumption); obtain ⟨ad482, e482, hx482_0⟩ := Kd.at_int (Kd.R_reads' HO_7.out).2.2 x14_3 p482 q482; obtain rfl : ad475 = ad482 := (by injection e482); replace p482 := eq_true p482; replace q482 := eq_true q482)); try go_wp2_with (first | (go_at_call 22; (with_reducible refine (chars_Class.calls k3 (wrap64 (bt t463 (rd t468 (ji40)))) t476 _ A46.out).mono ?_); rintro e w66 ⟨rfl, hb⟩; have n0_ := Aside0.mk (Kd.R_below (by (with_reducible repeat (first | apply Kd.R_alloc | apply Kd.R_drewN | apply Kd.R_drew)); exact HO_5.out) hb); have n1_ := Aside0.mk (Kd.R_below (by (with_reducible repeat (first | apply Kd.R_alloc | apply Kd.R_drewN | apply Kd.R_drew)); exact HO_7.out) hb); have n2_ := Aside0.mk (below_step (by repeat (first | (with_reducible first | exact HB.out | apply below_alloc | apply pw_below_drewN | apply below_drew1) | exact HB.out)) hb); clear HO_5; clear HO_7; clear HB; have HO_5 := n0_; have HO_7 := n1_; have HB := n2_; clear n0_ n1_ n2_; (try clear hb); (try clear hb2); (try clear hk); (try clear hi); have p477 : 0 ≤ (x14_3 : Int) := of_decide_eq_true (by first | (with_reducible assumption) | assumption); have q477 : x14_3 < (t468.length : Int) := of_decide_eq_true (by first | (with_reducible assumption) | assumption); obtain ⟨ad477, e477, hx477_0⟩ := Kd.at_int (Kd.R_reads' HO_7.out).2.2 x14_3 p477 q477; obtain rfl : ad475 = ad477 := (by injection e477); replace p477 := eq_true p477; replace q477 := eq_true q477; have p50 : 0 ≤ ((rd t468 x14_3) : Int) := of_decide_eq_true (by first | (with_reducible assumption) | assumption); have q50 : (rd t468 x14_3) < (t463.size : Int) := of_decide_eq_true (by first | (with_reducible assumption) | assumption); have hx50 := bt_at t463 (rd t468 x14_3); replace p50 := eq_true p50; replace q50 := eq_true q50) | (go_at_call 22; (with_reducible refine (chars_Class.calls k3 (wrap64 (bt t463 (rd t468 x14_3))) t478 _ A51.out).mono ?_); rintro e w67 ⟨rfl, hb⟩; have n0_ := Aside0.mk (Kd.R_below (by (with_reducible repeat (first | apply Kd.R_alloc | apply Kd.R_drewN | apply Kd.R_drew)); exact HO_5.out) hb); have n1_ := Aside0.mk (Kd.R_below (by (with_reducible repeat (first | apply Kd.R_alloc | apply Kd.R_drewN | apply Kd.R_drew)); exact HO_7.out) hb); have n2_ := Aside0.mk (below_step (by repeat (first | (with_reducible first | exact HB.out | apply below_alloc | apply pw_below_drewN | apply below_drew1) | exact HB.out)) hb); clear HO_5; clear HO_7; clear HB; have HO_5 := n0_; have HO_7 := n1_; have HB := n2_; clear n0_ n1_ n2_; (try clear hb); (try clear hb2); (try clear hk); (try clear hi); have p481 : 0 ≤ ((ji40) : Int) := of_decide_eq_true (by first | (with_reducible assumption) | assumption); have q481 : (ji40) < (t468.length : Int) := of_decide_eq_true (by first | (with_reducible assumption) | assumption); obtain ⟨ad481, e481, hx481_0⟩ := Kd.at_int (Kd.R_reads' HO_7.out).2.2 (ji40) p481 q481; obtain rfl : ad475 = ad481 := (by injection e481); replace p481 := eq_true p481; replace q481 := eq_true q481; have p482 : 0 ≤ (x14_3 : Int) := of_decide_eq_true (by first | (with_reducible assumption) | assumption); have q482 : x14_3 < (t468.length : Int) := of_decide_eq_true (by first | (with_reducible assumption) | assumption); obtain ⟨ad482, e482, hx482_0⟩ := Kd.at_int (Kd.R_reads' HO_7.out).2.2 x14_3 p482 q482; obtain rfl : ad475 = ad482 := (by injection e482); replace p482 := eq_true p482; replace q482 := eq_true q482)))
                                                go_ret
                                                exact ⟨by first | rfl | (simp [errW_none, errW_some] <;> rfl) | (simp only [← hji40]; first | rfl | (simp [errW_none, errW_some] <;> rfl)) | (simp [*, errW_none, errW_some] <;> rfl), by repeat (first | (with_reducible first | exact HB.out | apply below_alloc | apply pw_below_drewN | apply below_drew1) | exact HB.out)⟩
                                              · rw [if_neg c65] at H
                                                have c65b0 : decide ((rd t468 x14_3) ≤ (rd t468 (ji40))) = false := decide_eq_false c65
                                                clear c65
                                                have H' := Aside0.mk H
                                                clear H
                                                have p475 : 0 ≤ ((ji40) : Int) := of_decide_eq_true (by first | (with_reducible assumption) | assumption)
                                                have q475 : (ji40) < (t468.length : Int) := of_decide_eq_true (by first | (with_reducible assumption) | assumption)
                                                obtain ⟨ad475, e475, hx475_0⟩ := Kd.at_int (Kd.R_reads' HO_7.out).2.2 (ji40) p475 q475
                                                cases e475
                                                replace p475 := eq_true p475
                                                replace q475 := eq_true q475
                                                have p45 : 0 ≤ ((rd t468 (ji40)) : Int) := of_decide_eq_true (by first | (with_reducible assumption) | assumption)
                                                have q45 : (rd t468 (ji40)) < (t463.size : Int) := of_decide_eq_true (by first | (with_reducible assumption) | assumption)
                                                have hx45 := bt_at t463 (rd t468 (ji40))
                                                replace p45 := eq_true p45
                                                replace q45 := eq_true q45
                                                go_wp2_with (first | (go_at_call 22; (with_reducible refine (chars_Class.calls k3 (wrap64 (bt t463 (rd t468 (ji40)))) t476 _ A46.out).mono ?_); rintro e w68 ⟨rfl, hb⟩; have n0_ := Aside0.mk (Kd.R_below (by (with_reducible repeat (first | apply Kd.R_alloc | apply Kd.R_drewN | apply Kd.R_drew)); exact HO_5.out) hb); have n1_ := Aside0.mk (Kd.R_below (by (with_reducible repeat (first | apply Kd.R_alloc | apply Kd.R_drewN | apply Kd.R_drew)); exact HO_7.out) hb); have n2_ := Aside0.mk (below_step (by repeat (first | (with_reducible first | exact HB.out | apply below_alloc | apply pw_below_drewN | apply below_drew1) | exact HB.out)) hb); clear HO_5; clear HO_7; clear HB; have HO_5 := n0_; have HO_7 := n1_; have HB := n2_; clear n0_ n1_ n2_; (try clear hb); (try clear hb2); (try clear hk); (try clear hi); have p477 : 0 ≤ (x14_3 : Int) := of_decide_eq_true (by first | (with_reducible assumption) | assumption); have q477 : x14_3 < (t468.length : Int) := of_decide_eq_true (by first | (with_reducible assumption) | assumption); obtain ⟨ad477, e477, hx477_0⟩ := Kd.at_int (Kd.R_reads' HO_7.out).2.2 x14_3 p477 q477; obtain rfl : ad475 = ad477 := (by injection e477); replace p477 := eq_true p477; replace q477 := eq_true q477; have p50 : 0 ≤ ((rd t468 x14_3) : Int) := of_decide_eq_true (by first | (with_reducible assumption) | assumption); have q50 : (rd t468 x14_3) < (t463.size : Int) := of_decide_eq_true (by first | (with_reducible assumption) | assumption); have hx50 := bt_at t463 (rd t468 x14_3); replace p50 := eq_true p50; replace q50 := eq_true q50) | (go_at_call 22; (with_reducible refine (chars_Class.calls k3 (wrap64 (bt t463 (rd t468 x14_3))) t478 _ A51.out).mono ?_); rintro e w69 ⟨rfl, hb⟩; have n0_ := Aside0.mk (Kd.R_below (by (with_reducible repeat (first | apply Kd.R_alloc | apply Kd.R_drewN | apply Kd.R_drew)); exact HO_5.out) hb); have n1_ := Aside0.mk (Kd.R_below (by (with_reducible repeat (first | apply Kd.R_alloc | apply Kd.R_drewN | apply Kd.R_drew)); exact HO_7.out) hb); have n2_ := Aside0.mk (below_step (by repeat (first | (with_reducible first | exact HB.out | apply below_alloc | apply pw_below_drewN | apply below_drew1) | exact HB.out)) hb); clear HO_5; clear HO_7; clear HB; have HO_5 := n0_; have HO_7 := n1_; have HB := n2_; clear n0_ n1_ n2_; (try clear hb); (try clear hb2); (try clear hk); (try clear hi); have p481 : 0 ≤ ((ji40) : Int) := of_decide_eq_true (by first | (with_reducible assumption) | assumption); have q481 : (ji40) < (t468.length : Int) := of_decide_eq_true (by first | (with_reducible assumption) | assumption); obtain ⟨ad481, e481, hx481_0⟩ := Kd.at_int (Kd.R_reads' HO_7.out).2.2 (ji40) p481 q481; obtain rfl : ad475 = ad481 := (by injection e481); replace p481 := eq_true p481; replace q481 := eq_true q481; have p482 : 0 ≤ (x14_3 : Int) := of_decide_eq_true (by first | (with_reducible assumption) | assumption); have q482 : x14_3 < (t468.length : Int) := of_decide_eq_true (by first | (with_reducible assumption) | assumption); obtain ⟨ad482, e482, hx482_0⟩ := Kd.at_int (Kd.R_reads' HO_7.out).2.2 x14_3 p482 q482; obtain rfl : ad475 = ad482 := (by injection e482); replace p482 := eq_true p482; replace q482 := eq_true q482))
                                                repeat (go_quiet (first | (go_at_call 22; (with_reducible refine (chars_Class.calls k3 (wrap64 (bt t463 (rd t468 (ji40)))) t476 _ A46.out).mono ?_); rintro e w68 ⟨rfl, hb⟩; have n0_ := Aside0.mk (Kd.R_below (by (with_reducible repeat (first | apply Kd.R_alloc | apply Kd.R_drewN | apply Kd.R_drew)); exact HO_5.out) hb); have n1_ := Aside0.mk (Kd.R_below (by (with_reducible repeat (first | apply Kd.R_alloc | apply Kd.R_drewN | apply Kd.R_drew)); exact HO_7.out) hb); have n2_ := Aside0.mk (below_step (by repeat (first | (with_reducible first | exact HB.out | apply below_alloc | apply pw_below_drewN | apply below_drew1) | exact HB.out)) hb); clear HO_5; clear HO_7; clear HB; have HO_5 := n0_; have HO_7 := n1_; have HB := n2_; clear n0_ n1_ n2_; (try clear hb); (try clear hb2); (try clear hk); (try clear hi); have p477 : 0 ≤ (x14_3 : Int) := of_decide_eq_true (by first | (with_reducible assumption) | assumption); have q477 : x14_3 < (t468.length : Int) := of_decide_eq_true (by first | (with_reducible assumption) | assumption); obtain ⟨ad477, e477, hx477_0⟩ := Kd.at_int (Kd.R_reads' HO_7.out).2.2 x14_3 p477 q477; obtain rfl : ad475 = ad477 := (by injection e477); replace p477 := eq_true p477; replace q477 := eq_true q477; have p50 : 0 ≤ ((rd t468 x14_3) : Int) := of_decide_eq_true (by first | (with_reducible assumption) | assumption); have q50 : (rd t468 x14_3) < (t463.size : Int) := of_decide_eq_true (by first | (with_reducible assumption) | assumption); have hx50 := bt_at t463 (rd t468 x14_3); replace p50 := eq_true p50; replace q50 := eq_true q50) | (go_at_call 22; (with_reducible refine (chars_Class.calls k3 (wrap64 (bt t463 (rd t468 x14_3))) t478 _ A51.out).mono ?_); rintro e w69 ⟨rfl, hb⟩; have n0_ := Aside0.mk (Kd.R_below (by (with_reducible repeat (first | apply Kd.R_alloc | apply Kd.R_drewN | apply Kd.R_drew)); exact HO_5.out) hb); have n1_ := Aside0.mk (Kd.R_below (by (with_reducible repeat (first | apply Kd.R_alloc | apply Kd.R_drewN | apply Kd.R_drew)); exact HO_7.out) hb); have n2_ := Aside0.mk (below_step (by repeat (first | (with_reducible first | exact HB.out | apply below_alloc | apply pw_below_drewN | apply below_drew1) | exact HB.out)) hb); clear HO_5; clear HO_7; clear HB; have HO_5 := n0_; have HO_7 := n1_; have HB := n2_; clear n0_ n1_ n2_; (try clear hb); (try clear hb2); (try clear hk); (try clear hi); have p481 : 0 ≤ ((ji40) : Int) := of_decide_eq_true (by first | (with_reducible assumption) | assumption); have q481 : (ji40) < (t468.length : Int) := of_decide_eq_true (by first | (with_reducible assumption) | assumption); obtain ⟨ad481, e481, hx481_0⟩ := Kd.at_int (Kd.R_reads' HO_7.out).2.2 (ji40) p481 q481; obtain rfl : ad475 = ad481 := (by injection e481); replace p481 := eq_true p481; replace q481 := eq_true q481; have p482 : 0 ≤ (x14_3 : Int) := of_decide_eq_true (by first | (with_reducible assumption) | assumption); have q482 : x14_3 < (t468.length : Int) := of_decide_eq_true (by first | (with_reducible assumption) | assumption); obtain ⟨ad482, e482, hx482_0⟩ := Kd.at_int (Kd.R_reads' HO_7.out).2.2 x14_3 p482 q482; obtain rfl : ad475 = ad482 := (by injection e482); replace p482 := eq_true p482; replace q482 := eq_true q482)); try go_wp2_with (first | (go_at_call 22; (with_reducible refine (chars_Class.calls k3 (wrap64 (bt t463 (rd t468 (ji40)))) t476 _ A46.out).mono ?_); rintro e w68 ⟨rfl, hb⟩; have n0_ := Aside0.mk (Kd.R_below (by (with_reducible repeat (first | apply Kd.R_alloc | apply Kd.R_drewN | apply Kd.R_drew)); exact HO_5.out) hb); have n1_ := Aside0.mk (Kd.R_below (by (with_reducible repeat (first | apply Kd.R_alloc | apply Kd.R_drewN | apply Kd.R_drew)); exact HO_7.out) hb); have n2_ := Aside0.mk (below_step (by repeat (first | (with_reducible first | exact HB.out | apply below_alloc | apply pw_below_drewN | apply below_drew1) | exact HB.out)) hb); clear HO_5; clear HO_7; clear HB; have HO_5 := n0_; have HO_7 := n1_; have HB := n2_; clear n0_ n1_ n2_; (try clear hb); (try clear hb2); (try clear hk); (try clear hi); have p477 : 0 ≤ (x14_3 : Int) := of_decide_eq_true (by first | (with_reducible assumption) | assumption); have q477 : x14_3 < (t468.length : Int) := of_decide_eq_true (by first | (with_reducible assumption) | assumption); obtain ⟨ad477, e477, hx477_0⟩ := Kd.at_int (Kd.R_reads' HO_7.out).2.2 x14_3 p477 q477; obtain rfl : ad475 = ad477 := (by injection e477); replace p477 := eq_true p477; replace q477 := eq_true q477; have p50 : 0 ≤ ((rd t468 x14_3) : Int) := of_decide_eq_true (by first | (with_reducible assumption) | assumption); have q50 : (rd t468 x14_3) < (t463.size : Int) := of_decide_eq_true (by first | (with_reducible assumption) | assumption); have hx50 := bt_at t463 (rd t468 x14_3); replace p50 := eq_true p50; replace q50 := eq_true q50) | (go_at_call 22; (with_reducible refine (chars_Class.calls k3 (wrap64 (bt t463 (rd t468 x14_3))) t478 _ A51.out).mono ?_); rintro e w69 ⟨rfl, hb⟩; have n0_ := Aside0.mk (Kd.R_below (by (with_reducible repeat (first | apply Kd.R_alloc | apply Kd.R_drewN | apply Kd.R_drew)); exact HO_5.out) hb); have n1_ := Aside0.mk (Kd.R_below (by (with_reducible repeat (first | apply Kd.R_alloc | apply Kd.R_drewN | apply Kd.R_drew)); exact HO_7.out) hb); have n2_ := Aside0.mk (below_step (by repeat (first | (with_reducible first | exact HB.out | apply below_alloc | apply pw_below_drewN | apply below_drew1) | exact HB.out)) hb); clear HO_5; clear HO_7; clear HB; have HO_5 := n0_; have HO_7 := n1_; have HB := n2_; clear n0_ n1_ n2_; (try clear hb); (try clear hb2); (try clear hk); (try clear hi); have p481 : 0 ≤ ((ji40) : Int) := of_decide_eq_true (by first | (with_reducible assumption) | assumption); have q481 : (ji40) < (t468.length : Int) := of_decide_eq_true (by first | (with_reducible assumption) | assumption); obtain ⟨ad481, e481, hx481_0⟩ := Kd.at_int (Kd.R_reads' HO_7.out).2.2 (ji40) p481 q481; obtain rfl : ad475 = ad481 := (by injection e481); replace p481 := eq_true p481; replace q481 := eq_true q481; have p482 : 0 ≤ (x14_3 : Int) := of_decide_eq_true (by first | (with_reducible assumption) | assumption); have q482 : x14_3 < (t468.length : Int) := of_decide_eq_true (by first | (with_reducible assumption) | assumption); obtain ⟨ad482, e482, hx482_0⟩ := Kd.at_int (Kd.R_reads' HO_7.out).2.2 x14_3 p482 q482; obtain rfl : ad475 = ad482 := (by injection e482); replace p482 := eq_true p482; replace q482 := eq_true q482)))
                                                go_roundg k3
                                                case measure => have := HK1.out; have := HK2.out; have := HK3.out; omega
                                                case rel => exact ⟨(wrap64 (x14_3 + 1)), (by first | rfl | (simp; done) | (simp [*]; done)), H', ⟨by have := HK1.out; have := HK2.out; have := HK3.out; omega⟩, ⟨by (with_reducible repeat (first | apply Kd.R_alloc | apply Kd.R_drewN | apply Kd.R_drew)); exact HO_5.out⟩, ⟨by (with_reducible repeat (first | apply Kd.R_alloc | apply Kd.R_drewN | apply Kd.R_drew)); exact HO_7.out⟩, ⟨by repeat (first | (with_reducible first | exact HB.out | apply below_alloc | apply pw_below_drewN | apply below_drew1) | exact HB.out)⟩⟩
                                            · rw [if_neg c64] at H
                                              have c64b0 : ((t476 == 12) == (t478 == 12)) = false := by simpa using c64
                                              have c64x : (t476 == 12) = true := by have h_ := c64b0; rw [c52b0] at h_; simpa using h_
                                              (try (have c64b1 : decide ((t476 == 12) = (t478 == 12)) = false := by simpa using c64))
                                              (try (have c64b2 : ((t476 == 12) == (t478 == 12)) = false := by simpa using c64))
                                              (try (have c64b3 : ¬ ((t476 == 12) = (t478 == 12)) := by simpa using c64))
                                              clear c64
                                              have H' := Aside0.mk H
                                              clear H
                                              have p475 : 0 ≤ ((ji40) : Int) := of_decide_eq_true (by first | (with_reducible assumption) | assumption)
                                              have q475 : (ji40) < (t468.length : Int) := of_decide_eq_true (by first | (with_reducible assumption) | assumption)
                                              obtain ⟨ad475, e475, hx475_0⟩ := Kd.at_int (Kd.R_reads' HO_7.out).2.2 (ji40) p475 q475
                                              cases e475
                                              replace p475 := eq_true p475
                                              replace q475 := eq_true q475
                                              have p45 : 0 ≤ ((rd t468 (ji40)) : Int) := of_decide_eq_true (by first | (with_reducible assumption) | assumption)
                                              have q45 : (rd t468 (ji40)) < (t463.size : Int) := of_decide_eq_true (by first | (with_reducible assumption) | assumption)
                                              have hx45 := bt_at t463 (rd t468 (ji40))
                                              replace p45 := eq_true p45
                                              replace q45 := eq_true q45
                                              go_wp2_with (first | (go_at_call 22; (with_reducible refine (chars_Class.calls k3 (wrap64 (bt t463 (rd t468 (ji40)))) t476 _ A46.out).mono ?_); rintro e w70 ⟨rfl, hb⟩; have n0_ := Aside0.mk (Kd.R_below (by (with_reducible repeat (first | apply Kd.R_alloc | apply Kd.R_drewN | apply Kd.R_drew)); exact HO_5.out) hb); have n1_ := Aside0.mk (Kd.R_below (by (with_reducible repeat (first | apply Kd.R_alloc | apply Kd.R_drewN | apply Kd.R_drew)); exact HO_7.out) hb); have n2_ := Aside0.mk (below_step (by repeat (first | (with_reducible first | exact HB.out | apply below_alloc | apply pw_below_drewN | apply below_drew1) | exact HB.out)) hb); clear HO_5; clear HO_7; clear HB; have HO_5 := n0_; have HO_7 := n1_; have HB := n2_; clear n0_ n1_ n2_; (try clear hb); (try clear hb2); (try clear hk); (try clear hi); have p477 : 0 ≤ (x14_3 : Int) := of_decide_eq_true (by first | (with_reducible assumption) | assumption); have q477 : x14_3 < (t468.length : Int) := of_decide_eq_true (by first | (with_reducible assumption) | assumption); obtain ⟨ad477, e477, hx477_0⟩ := Kd.at_int (Kd.R_reads' HO_7.out).2.2 x14_3 p477 q477; obtain rfl : ad475 = ad477 := (by injection e477); replace p477 := eq_true p477; replace q477 := eq_true q477; have p50 : 0 ≤ ((rd t468 x14_3) : Int) := of_decide_eq_true (by first | (with_reducible assumption) | assumption); have q50 : (rd t468 x14_3) < (t463.size : Int) := of_decide_eq_true (by first | (with_reducible assumption) | assumption); have hx50 := bt_at t463 (rd t468 x14_3); replace p50 := eq_true p50; replace q50 := eq_true q50) | (go_at_call 22; (with_reducible refine (chars_Class.calls k3 (wrap64 (bt t463 (rd t468 x14_3))) t478 _ A51.out).mono ?_); rintro e w71 ⟨rfl, hb⟩; have n0_ := Aside0.mk (Kd.R_below (by (with_reducible repeat (first | apply Kd.R_alloc | apply Kd.R_drewN | apply Kd.R_drew)); exact HO_5.out) hb); have n1_ := Aside0.mk (Kd.R_below (by (with_reducible repeat (first | apply Kd.R_alloc | apply Kd.R_drewN | apply Kd.R_drew)); exact HO_7.out) hb); have n2_ := Aside0.mk (below_step (by repeat (first | (with_reducible first | exact HB.out | apply below_alloc | apply pw_below_drewN | apply below_drew1) | exact HB.out)) hb); clear HO_5; clear HO_7; clear HB; have HO_5 := n0_; have HO_7 := n1_; have HB := n2_; clear n0_ n1_ n2_; (try clear hb); (try clear hb2); (try clear hk); (try clear hi)))
                                              repeat (go_quiet (first | (go_at_call 22; (with_reducible refine (chars_Class.calls k3 (wrap64 (bt t463 (rd t468 (ji40)))) t476 _ A46.out).mono ?_); rintro e w70 ⟨rfl, hb⟩; have n0_ := Aside0.mk (Kd.R_below (by (with_reducible repeat (first | apply Kd.R_alloc | apply Kd.R_drewN | apply Kd.R_drew)); exact HO_5.out) hb); have n1_ := Aside0.mk (Kd.R_below (by (with_reducible repeat (first | apply Kd.R_alloc | apply Kd.R_drewN | apply Kd.R_drew)); exact HO_7.out) hb); have n2_ := Aside0.mk (below_step (by repeat (first | (with_reducible first | exact HB.out | apply below_alloc | apply pw_below_drewN | apply below_drew1) | exact HB.out)) hb); clear HO_5; clear HO_7; clear HB; have HO_5 := n0_; have HO_7 := n1_; have HB := n2_; clear n0_ n1_ n2_; (try clear hb); (try clear hb2); (try clear hk); (try clear hi); have p477 : 0 ≤ (x14_3 : Int) := of_decide_eq_true (by first | (with_reducible assumption) | assumption); have q477 : x14_3 < (t468.length : Int) := of_decide_eq_true (by first | (with_reducible assumption) | assumption); obtain ⟨ad477, e477, hx477_0⟩ := Kd.at_int (Kd.R_reads' HO_7.out).2.2 x14_3 p477 q477; obtain rfl : ad475 = ad477 := (by injection e477); replace p477 := eq_true p477; replace q477 := eq_true q477; have p50 : 0 ≤ ((rd t468 x14_3) : Int) := of_decide_eq_true (by first | (with_reducible assumption) | assumption); have q50 : (rd t468 x14_3) < (t463.size : Int) := of_decide_eq_true (by first | (with_reducible assumption) | assumption); have hx50 := bt_at t463 (rd t468 x14_3); replace p50 := eq_true p50; replace q50 := eq_true q50) | (go_at_call 22; (with_reducible refine (chars_Class.calls k3 (wrap64 (bt t463 (rd t468 x14_3))) t478 _ A51.out).mono ?_); rintro e w71 ⟨rfl, hb⟩; have n0_ := Aside0.mk (Kd.R_below (by (with_reducible repeat (first | apply Kd.R_alloc | apply Kd.R_drewN | apply Kd.R_drew)); exact HO_5.out) hb); have n1_ := Aside0.mk (Kd.R_below (by (with_reducible repeat (first | apply Kd.R_alloc | apply Kd.R_drewN | apply Kd.R_drew)); exact HO_7.out) hb); have n2_ := Aside0.mk (below_step (by repeat (first | (with_reducible first | exact HB.out | apply below_alloc | apply pw_below_drewN | apply below_drew1) | exact HB.out)) hb); clear HO_5; clear HO_7; clear HB; have HO_5 := n0_; have HO_7 := n1_; have HB := n2_; clear n0_ n1_ n2_; (try clear hb); (try clear hb2); (try clear hk); (try clear hi))); try go_wp2_with (first | (go_at_call 22; (with_reducible refine (chars_Class.calls k3 (wrap64 (bt t463 (rd t468 (ji40)))) t476 _ A46.out).mono ?_); rintro e w70 ⟨rfl, hb⟩; have n0_ := Aside0.mk (Kd.R_below (by (with_reducible repeat (first | apply Kd.R_alloc | apply Kd.R_drewN | apply Kd.R_drew)); exact HO_5.out) hb); have n1_ := Aside0.mk (Kd.R_below (by (with_reducible repeat (first | apply Kd.R_alloc | apply Kd.R_drewN | apply Kd.R_drew)); exact HO_7.out) hb); have n2_ := Aside0.mk (below_step (by repeat (first | (with_reducible first | exact HB.out | apply below_alloc | apply pw_below_drewN | apply below_drew1) | exact HB.out)) hb); clear HO_5; clear HO_7; clear HB; have HO_5 := n0_; have HO_7 := n1_; have HB := n2_; clear n0_ n1_ n2_; (try clear hb); (try clear hb2); (try clear hk); (try clear hi); have p477 : 0 ≤ (x14_3 : Int) := of_decide_eq_true (by first | (with_reducible assumption) | assumption); have q477 : x14_3 < (t468.length : Int) := of_decide_eq_true (by first | (with_reducible assumption) | assumption); obtain ⟨ad477, e477, hx477_0⟩ := Kd.at_int (Kd.R_reads' HO_7.out).2.2 x14_3 p477 q477; obtain rfl : ad475 = ad477 := (by injection e477); replace p477 := eq_true p477; replace q477 := eq_true q477; have p50 : 0 ≤ ((rd t468 x14_3) : Int) := of_decide_eq_true (by first | (with_reducible assumption) | assumption); have q50 : (rd t468 x14_3) < (t463.size : Int) := of_decide_eq_true (by first | (with_reducible assumption) | assumption); have hx50 := bt_at t463 (rd t468 x14_3); replace p50 := eq_true p50; replace q50 := eq_true q50) | (go_at_call 22; (with_reducible refine (chars_Class.calls k3 (wrap64 (bt t463 (rd t468 x14_3))) t478 _ A51.out).mono ?_); rintro e w71 ⟨rfl, hb⟩; have n0_ := Aside0.mk (Kd.R_below (by (with_reducible repeat (first | apply Kd.R_alloc | apply Kd.R_drewN | apply Kd.R_drew)); exact HO_5.out) hb); have n1_ := Aside0.mk (Kd.R_below (by (with_reducible repeat (first | apply Kd.R_alloc | apply Kd.R_drewN | apply Kd.R_drew)); exact HO_7.out) hb); have n2_ := Aside0.mk (below_step (by repeat (first | (with_reducible first | exact HB.out | apply below_alloc | apply pw_below_drewN | apply below_drew1) | exact HB.out)) hb); clear HO_5; clear HO_7; clear HB; have HO_5 := n0_; have HO_7 := n1_; have HB := n2_; clear n0_ n1_ n2_; (try clear hb); (try clear hb2); (try clear hk); (try clear hi))))
                                              go_roundg k3
                                              case measure => have := HK1.out; have := HK2.out; have := HK3.out; omega
                                              case rel => exact ⟨(wrap64 (x14_3 + 1)), (by first | rfl | (simp; done) | (simp [*]; done)), H', ⟨by have := HK1.out; have := HK2.out; have := HK3.out; omega⟩, ⟨by (with_reducible repeat (first | apply Kd.R_alloc | apply Kd.R_drewN | apply Kd.R_drew)); exact HO_5.out⟩, ⟨by (with_reducible repeat (first | apply Kd.R_alloc | apply Kd.R_drewN | apply Kd.R_drew)); exact HO_7.out⟩, ⟨by repeat (first | (with_reducible first | exact HB.out | apply below_alloc | apply pw_below_drewN | apply below_drew1) | exact HB.out)⟩⟩
                                        · rw [if_neg c49] at H
                                          exact absurd H (by simp)
                                      · rw [if_neg c48] at H
                                        exact absurd H (by simp)
                                    · rw [if_neg c47] at H
                                      exact absurd H (by simp)
                                  · rw [if_neg c44] at H
                                    exact absurd H (by simp)
                                · rw [if_neg c43] at H
                                  exact absurd H (by simp)
                              · rw [if_neg c42] at H
                                exact absurd H (by simp)
                            · rw [if_neg c41] at H
                              exact absurd H (by simp)
                          · rw [if_neg c39] at H
                            have c39b0 : decide (x14_3 < (t468.length : Int)) = false := decide_eq_false c39
                            clear c39
                            have H' := Aside0.mk H
                            clear H
                            go_wp2
                            repeat (go_quiet (fail); try go_wp2)
                            go_roundg k3
                            case measure => have := HK1.out; have := HK2.out; have := HK3.out; omega
                            case rel => exact ⟨(wrap64 (x6_1 + 1)), (by first | rfl | (simp; done) | (simp [*]; done)), H', ⟨by have := HK1.out; have := HK2.out; have := HK3.out; omega⟩, ⟨by (with_reducible repeat (first | apply Kd.R_alloc | apply Kd.R_drewN | apply Kd.R_drew)); exact HO_5.out⟩, ⟨by repeat (first | (with_reducible first | exact HB.out | apply below_alloc | apply pw_below_drewN | apply below_drew1) | exact HB.out)⟩⟩
                    · rw [if_neg c37] at H
                      have c37b0 : (x8_2 == (t468.length : Int)) = false := beq_eq_false_iff_ne.mpr c37
                      have c37b1 : (x8_2 != (t468.length : Int)) = true := bne_iff_ne.mpr c37
                      obtain rfl := Option.some.inj H
                      have p472 : 0 ≤ (x6_1 : Int) := of_decide_eq_true (by first | (with_reducible assumption) | assumption)
                      have q472 : x6_1 < (t464.length : Int) := of_decide_eq_true (by first | (with_reducible assumption) | assumption)
                      obtain ⟨ad472, e472, hx472_0, hx472_1⟩ := at_T29 (Kd.R_reads' HO_5.out).2.2 x6_1 p472 q472
                      obtain rfl : ad467 = ad472 := (by injection e472)
                      replace p472 := eq_true p472
                      replace q472 := eq_true q472
                      obtain ⟨Ao72, co72, eo72⟩ := Kd.R_slice HO_7.out
                      subst eo72
                      go_wp2
                      repeat (go_quiet (fail); try go_wp2)
                      go_ret
                      exact ⟨by first | rfl | (simp [errW_none, errW_some] <;> rfl) | (simp [*, errW_none, errW_some] <;> rfl), by repeat (first | (with_reducible first | exact HB.out | apply below_alloc | apply pw_below_drewN | apply below_drew1) | exact HB.out)⟩
                · rw [if_neg c14] at H
                  exact absurd H (by simp)
              · rw [if_neg c13] at H
                exact absurd H (by simp)
        · rw [if_neg c9] at H
          exact absurd H (by simp)
      · rw [if_neg c8] at H
        have c8b0 : decide (x6_1 < (t464.length : Int)) = false := decide_eq_false c8
        clear c8
        obtain rfl := Option.some.inj H
        obtain ⟨Ao73, co73, eo73⟩ := Kd.R_slice HO_5.out
        subst eo73
        go_wp2
        repeat (go_quiet (fail); try go_wp2)
        go_ret
        exact ⟨by first | rfl | (simp [errW_none, errW_some] <;> rfl) | (simp [*, errW_none, errW_some] <;> rfl), by repeat (first | (with_reducible first | exact HB.out | apply below_alloc | apply pw_below_drewN | apply below_drew1) | exact HB.out)⟩

/-- THE ONE PURE STATEMENT of abugidalaw17_FormsPlaces: yours. -/
def abugidalaw17_FormsPlaces.Pure : Prop := ∀ (l0 : List Int), l0.length ≤ maxLen → l0.length * 8 ≤ 140737488351232 → (∀ x ∈ l0, (Lit.int .i64 x).wf = true) → ∃ k, abugidalaw17_FormsPlaces.f k l0 = some true
theorem abugidalaw17_FormsPlaces.walk (P : abugidalaw17_FormsPlaces.Pure) (a0 : Option Addr) (len0 cap0 : Nat) (z0 : List Int) (w : World) (w0 : (a0 = none ∧ len0 = 0 ∧ cap0 = 0 ∧ z0 = []) ∨ ∃ x, a0 = some x ∧ len0 ≤ cap0 ∧ cap0 ≤ maxLen ∧ z0.length = cap0 ∧ (∀ i, i < z0.length → w.cell? (x.add i) = some (.int .i64 (z0.getD i 0))) ∧ ∀ n ∈ z0, (Lit.int .i64 n).wf = true) (y0 : len0 * 8 ≤ 140737488351232) :
    Calls Try.prog 8 #[.slice a0 len0 cap0] w fun e w' => e = .returned (.bool true) ∧ Below w.heap.size w w' := by
  obtain ⟨l0, rfl, hr0, hm0, hw0, hc0⟩ := ReadsInt.ofRowC w0
  obtain ⟨k, h⟩ := P l0 hm0 y0 hw0
  refine (abugidalaw17_FormsPlaces.calls k _ _ l0 true w (Kd.C_of_reads (d := (0 : Int)) (h1 := fun _ => rfl) hr0) hc0 h).mono ?_
  rintro e w' ⟨rfl, hd⟩
  exact ⟨rfl, hd⟩

end Go.Proofs.Ytgpdieogkcnfeaa.Q

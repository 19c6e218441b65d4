-- Written by wip/tools/myprint.py, a program of this session that drives the kit's print.py; not a text of print.sh.
import Derived.Test.YthllgpjjjegenaaQx0
import Derived.Test.YthllgpjjjegenaaQx1
import Derived.Test.YthllgpjjjegenaaQx2
import Derived.Test.YthllgpjjjegenaaQx3
import Derived.Test.YthllgpjjjegenaaQx4
import Derived.Test.YthllgpjjjegenaaQx7
import Derived.Test.YthllgpjjjegenaaQx8
namespace Go.Proofs.Ythllgpjjjegenaa.Q
open Go.RowKit Go.Proofs.YthllgpjjjegenaaW.PrintWords Go.Proofs.YthllgpjjjegenaaW.PrintLast Go.Proofs.YthllgpjjjegenaaW.PrintMore
attribute [local go_sem] max2_int min2_int max_two min_two max_three min_three max_four min_four   -- for this text's walks alone
set_option linter.unusedVariables false
set_option linter.unusedSimpArgs false

/-! ### abugidalaw08_BreaksHeads: function 4 -/
mutual
def abugidalaw08_BreaksHeads.l0 : Nat → Bool → ByteArray → List (S33) → List Int → Int → Option (Bool)
  | 0, _, _, _, _, _ => none
  | k + 1, x3, x4, x5, x6, x7 => if x7 < (x5.length : Int) then (if 0 ≤ x7 then ((cluster_Base.f k x4 ((rd_T33 x5 x7).f0) ((rd_T33 x5 x7).f1)).bind fun t355 => (if 0 ≤ t355 then (if t355 < (x4.size : Int) then ((chars_Class.f k (wrap64 (bt x4 t355))).bind fun t356 => (if x7 < (x6.length : Int) then (if (((rd x6 x7) == 2) != (t356 == 1)) = true then (abugidalaw08_BreaksHeads.j1 k x3 x4 x5 x6 x7 t356 true) else (if (rd x6 x7) < 0 then (abugidalaw08_BreaksHeads.j1 k x3 x4 x5 x6 x7 t356 true) else (abugidalaw08_BreaksHeads.j1 k x3 x4 x5 x6 x7 t356 (decide ((rd x6 x7) > 2))))) else (none))) else (none)) else (none))) else (none)) else (some x3)
def abugidalaw08_BreaksHeads.j1 : Nat → Bool → ByteArray → List (S33) → List Int → Int → Int → Bool → Option (Bool)
  | 0, _, _, _, _, _, _, _ => none
  | k + 1, x3, x4, x5, x6, x7, x8, x60 => if x60 = true then (some false) else (if x7 = (wrap64 ((x5.length : Int) - 1)) then (abugidalaw08_BreaksHeads.l0 k x3 x4 x5 x6 (wrap64 (x7 + 1))) else (if 0 ≤ (wrap64 (x7 + 1)) then (if (wrap64 (x7 + 1)) < (x5.length : Int) then ((cluster_Base.f k x4 ((rd_T33 x5 (wrap64 (x7 + 1))).f0) ((rd_T33 x5 (wrap64 (x7 + 1))).f1)).bind fun t361 => (if 0 ≤ t361 then (if t361 < (x4.size : Int) then ((chars_Class.f k (wrap64 (bt x4 t361))).bind fun t362 => (if t362 = 1 then (if 0 ≤ x7 then (if x7 < (x6.length : Int) then (if (rd x6 x7) = 1 then (some false) else (if x8 = 2 then (abugidalaw08_BreaksHeads.l0 k x3 x4 x5 x6 (wrap64 (x7 + 1))) else (abugidalaw08_BreaksHeads.l0 k x3 x4 x5 x6 (wrap64 (x7 + 1))))) else (none)) else (none)) else (if t362 = 2 then (if 0 ≤ x7 then (if x7 < (x6.length : Int) then (if (rd x6 x7) = 1 then (some false) else (if x8 = 2 then (abugidalaw08_BreaksHeads.l0 k x3 x4 x5 x6 (wrap64 (x7 + 1))) else (abugidalaw08_BreaksHeads.l0 k x3 x4 x5 x6 (wrap64 (x7 + 1))))) else (none)) else (none)) else (if 0 ≤ x7 then (if x7 < (x6.length : Int) then (if (rd x6 x7) = 1 then (if t362 = 4 then (some false) else (if x8 = 2 then (abugidalaw08_BreaksHeads.l0 k x3 x4 x5 x6 (wrap64 (x7 + 1))) else (abugidalaw08_BreaksHeads.l0 k x3 x4 x5 x6 (wrap64 (x7 + 1))))) else (if x8 = 2 then (if t362 = 4 then (abugidalaw08_BreaksHeads.l0 k x3 x4 x5 x6 (wrap64 (x7 + 1))) else (some false)) else (abugidalaw08_BreaksHeads.l0 k x3 x4 x5 x6 (wrap64 (x7 + 1))))) else (none)) else (none))))) else (none)) else (none))) else (none)) else (none)))
end
def abugidalaw08_BreaksHeads.f (k : Nat) (l0 : List Int) : Option (Bool) := (abugidalaw08_sanity.f k).bind fun t346 => ((abugidaref05_Text.f k l0 60).bind fun t347 => ((cluster_Split.f t347).bind fun t348 => ((breaks_May.f k t347).bind fun t351 => (if (t351.length : Int) = (t348.length : Int) then (abugidalaw08_BreaksHeads.l0 k t346 t347 t348 t351 0) else (some false)))))
theorem abugidalaw08_BreaksHeads.mono_l : ∀ k, (∀ y0 y1 y2 y3 y4, LeO (abugidalaw08_BreaksHeads.l0 k y0 y1 y2 y3 y4) (abugidalaw08_BreaksHeads.l0 (k + 1) y0 y1 y2 y3 y4)) ∧ (∀ y0 y1 y2 y3 y4 y5 y6, LeO (abugidalaw08_BreaksHeads.j1 k y0 y1 y2 y3 y4 y5 y6) (abugidalaw08_BreaksHeads.j1 (k + 1) y0 y1 y2 y3 y4 y5 y6))
  | 0 => ⟨fun _ _ _ _ _ r h => by simp [abugidalaw08_BreaksHeads.l0] at h, fun _ _ _ _ _ _ _ r h => by simp [abugidalaw08_BreaksHeads.j1] at h⟩
  | k + 1 => by
    obtain ⟨ih0, ih1⟩ := abugidalaw08_BreaksHeads.mono_l k
    refine ⟨?_, ?_⟩
    · intro y0 y1 y2 y3 y4
      unfold abugidalaw08_BreaksHeads.l0
      repeat' first
      | (with_reducible exact ih0 _ _ _ _ _)
      | (with_reducible exact ih1 _ _ _ _ _ _ _)
      | (with_reducible exact abugidalaw08_sanity.mono _)
      | (with_reducible exact abugidaref05_Text.mono _ _ _)
      | (with_reducible exact breaks_May.mono _ _)
      | (with_reducible exact chars_Class.mono _ _)
      | (with_reducible exact cluster_Base.mono _ _ _ _)
      | (with_reducible exact LeO.refl _)
      | (with_reducible exact LeO.none _)
      | (with_reducible refine LeO.ite ?_ ?_)
      | (with_reducible refine LeO.bind ?_ (fun _ => ?_))
      | exact ih0 _ _ _ _ _
      | exact ih1 _ _ _ _ _ _ _
      | exact abugidalaw08_sanity.mono _
      | exact abugidaref05_Text.mono _ _ _
      | exact breaks_May.mono _ _
      | exact chars_Class.mono _ _
      | exact cluster_Base.mono _ _ _ _
      | exact LeO.none _
      | refine LeO.ite ?_ ?_
      | refine LeO.bind ?_ (fun _ => ?_)
    · intro y0 y1 y2 y3 y4 y5 y6
      unfold abugidalaw08_BreaksHeads.j1
      repeat' first
      | (with_reducible exact ih0 _ _ _ _ _)
      | (with_reducible exact ih1 _ _ _ _ _ _ _)
      | (with_reducible exact abugidalaw08_sanity.mono _)
      | (with_reducible exact abugidaref05_Text.mono _ _ _)
      | (with_reducible exact breaks_May.mono _ _)
      | (with_reducible exact chars_Class.mono _ _)
      | (with_reducible exact cluster_Base.mono _ _ _ _)
      | (with_reducible exact LeO.refl _)
      | (with_reducible exact LeO.none _)
      | (with_reducible refine LeO.ite ?_ ?_)
      | (with_reducible refine LeO.bind ?_ (fun _ => ?_))
      | exact ih0 _ _ _ _ _
      | exact ih1 _ _ _ _ _ _ _
      | exact abugidalaw08_sanity.mono _
      | exact abugidaref05_Text.mono _ _ _
      | exact breaks_May.mono _ _
      | exact chars_Class.mono _ _
      | exact cluster_Base.mono _ _ _ _
      | exact LeO.none _
      | refine LeO.ite ?_ ?_
      | refine LeO.bind ?_ (fun _ => ?_)
theorem abugidalaw08_BreaksHeads.mono : ∀ a0 k, LeO (abugidalaw08_BreaksHeads.f k a0) (abugidalaw08_BreaksHeads.f (k + 1) a0) := by
  intro a0 k
  obtain ⟨ih0, ih1⟩ := abugidalaw08_BreaksHeads.mono_l k
  unfold abugidalaw08_BreaksHeads.f
  repeat' first
      | (with_reducible exact ih0 _ _ _ _ _)
      | (with_reducible exact ih1 _ _ _ _ _ _ _)
      | (with_reducible exact abugidalaw08_sanity.mono _)
      | (with_reducible exact abugidaref05_Text.mono _ _ _)
      | (with_reducible exact breaks_May.mono _ _)
      | (with_reducible exact chars_Class.mono _ _)
      | (with_reducible exact cluster_Base.mono _ _ _ _)
      | (with_reducible exact LeO.refl _)
      | (with_reducible exact LeO.none _)
      | (with_reducible refine LeO.ite ?_ ?_)
      | (with_reducible refine LeO.bind ?_ (fun _ => ?_))
      | exact ih0 _ _ _ _ _
      | exact ih1 _ _ _ _ _ _ _
      | exact abugidalaw08_sanity.mono _
      | exact abugidaref05_Text.mono _ _ _
      | exact breaks_May.mono _ _
      | exact chars_Class.mono _ _
      | exact cluster_Base.mono _ _ _ _
      | exact LeO.none _
      | refine LeO.ite ?_ ?_
      | refine LeO.bind ?_ (fun _ => ?_)
set_option maxHeartbeats 8000000 in
set_option maxRecDepth 100000 in
theorem abugidalaw08_BreaksHeads.calls (k : Nat) (A0 : Option Addr) (c0 : Nat) (l0 : List Int) (r : Bool) (w : World) (hr0 : Kd.C (Kd.int .i64) w A0 l0.length l0) (hc0 : l0.length ≤ c0) (h : abugidalaw08_BreaksHeads.f k l0 = some r) :
    Calls Try.prog 4 #[.slice A0 l0.length c0] w fun e w' => e = .returned (.bool r) ∧ Below w.heap.size w w' := by
  have hu33 := Try.underlying33
  have HR0 := Aside0.mk hr0
  have HC0 := Aside0.mk hc0
  clear hr0 hc0
  have HB := Aside0.mk (Below.refl w.heap.size w)
  have H : ((abugidalaw08_sanity.f k).bind fun t346 => ((abugidaref05_Text.f k l0 60).bind fun t347 => ((cluster_Split.f t347).bind fun t348 => ((breaks_May.f k t347).bind fun t351 => (if (t351.length : Int) = (t348.length : Int) then (abugidalaw08_BreaksHeads.l0 k t346 t347 t348 t351 0) else (some false)))))) = some r := h
  clear h
  replace H := Option.bind_eq_some_iff.mp H
  obtain ⟨t346, A20, H⟩ := H
  replace H : ((abugidaref05_Text.f k l0 60).bind fun t347 => ((cluster_Split.f t347).bind fun t348 => ((breaks_May.f k t347).bind fun t351 => (if (t351.length : Int) = (t348.length : Int) then (abugidalaw08_BreaksHeads.l0 k t346 t347 t348 t351 0) else (some false))))) = some r := H
  have A2 := Aside0.mk A20
  clear A20
  replace H := Option.bind_eq_some_iff.mp H
  obtain ⟨t347, A30, H⟩ := H
  replace H : ((cluster_Split.f t347).bind fun t348 => ((breaks_May.f k t347).bind fun t351 => (if (t351.length : Int) = (t348.length : Int) then (abugidalaw08_BreaksHeads.l0 k t346 t347 t348 t351 0) else (some false)))) = some r := H
  have A3 := Aside0.mk A30
  clear A30
  replace H := Option.bind_eq_some_iff.mp H
  obtain ⟨t348, A40, H⟩ := H
  replace H : ((breaks_May.f k t347).bind fun t351 => (if (t351.length : Int) = (t348.length : Int) then (abugidalaw08_BreaksHeads.l0 k t346 t347 t348 t351 0) else (some false))) = some r := H
  have A4 := Aside0.mk A40
  clear A40
  replace H := Option.bind_eq_some_iff.mp H
  obtain ⟨t351, A50, H⟩ := H
  replace H : (if (t351.length : Int) = (t348.length : Int) then (abugidalaw08_BreaksHeads.l0 k t346 t347 t348 t351 0) else (some false)) = some r := H
  have A5 := Aside0.mk A50
  clear A50
  by_cases c6 : (t351.length : Int) = (t348.length : Int)
  · rw [if_pos c6] at H
    have c6b0 : ((t351.length : Int) == (t348.length : Int)) = true := beq_iff_eq.mpr c6
    have c6b1 : ((t351.length : Int) != (t348.length : Int)) = false := bne_eq_false_iff_eq.mpr c6
    have c6b2 : (t351.length == t348.length) = true := by first | simpa using c6 | (simp at c6 ⊢; omega)
    clear c6
    have H' := Aside0.mk H
    clear H
    go_enter Try.func4, Try.ntmps4
    go_wp2_with (first | ((with_reducible refine gate_callee (f := 9) rfl ?_); refine goesL_ (some 11) rfl rfl Try.func9 (by kernel_rfl) rfl #[] rfl (by (try simp only [List.map_toArray, List.map_cons, List.map_nil]); first | done | rfl | (simp only [List.length_drop, List.length_take]; rfl)) ?_; (with_reducible refine (abugidalaw08_sanity.calls k  t346 _ A2.out).mono ?_); rintro e w7 ⟨rfl, hb⟩; refine ⟨_, rfl, ?_⟩; have n0_ := Aside0.mk (below_step (by repeat (first | (with_reducible first | exact HB.out | apply below_alloc | apply pw_below_drewN | apply below_drew1) | exact HB.out)) hb); clear HB; have HB := n0_; clear n0_; (try clear hb); (try clear hb2); (try clear hk); (try clear hi)) | ((with_reducible refine gate_callee (f := 10) rfl ?_); refine goesL_ (some 13) rfl rfl Try.func10 (by kernel_rfl) rfl #[.slice A0 l0.length c0, .int .i64 60] rfl (by (try simp only [List.map_toArray, List.map_cons, List.map_nil]); first | done | rfl | (simp only [List.length_drop, List.length_take]; rfl)) ?_; (with_reducible refine (abugidaref05_Text.calls k _ _ l0 60 t347 _ ?side1 ?side2 A3.out).mono ?_); (case side1 => repeat (first | exact (Kd.C_below HR0.out HB.out) | (with_reducible refine Kd.C_alloc ?_ _) | (with_reducible refine Kd.C_drewN ?_ _) | (with_reducible refine Kd.C_drew ?_))); (case side2 => exact HC0.out); rintro e w8 ⟨rfl, hb⟩; refine ⟨_, rfl, ?_⟩; have n0_ := Aside0.mk (below_step (by repeat (first | (with_reducible first | exact HB.out | apply below_alloc | apply pw_below_drewN | apply below_drew1) | exact HB.out)) hb); clear HB; have HB := n0_; clear n0_; (try clear hb); (try clear hb2); (try clear hk); (try clear hi)) | ((with_reducible refine gate_callee (f := 14) rfl ?_); refine goesL_ (some 15) rfl rfl Try.func14 (by kernel_rfl) rfl #[.string t347] rfl (by (try simp only [List.map_toArray, List.map_cons, List.map_nil]); first | done | rfl | (simp only [List.length_drop, List.length_take]; rfl)) ?_; (with_reducible refine (cluster_Split.calls t347 t348 _ A4.out).mono ?_); rintro e w9 ⟨v349, rfl, ho0, hb⟩; refine ⟨_, rfl, ?_⟩; have n0_ := Aside0.mk (Kd.R_lower ho0 (below_size (by repeat (first | (with_reducible first | exact HB.out | apply below_alloc | apply pw_below_drewN | apply below_drew1) | exact HB.out)))); have n1_ := Aside0.mk (below_step (by repeat (first | (with_reducible first | exact HB.out | apply below_alloc | apply pw_below_drewN | apply below_drew1) | exact HB.out)) hb); clear HB; have HO350 := n0_; have HB := n1_; clear n0_ n1_; (try clear hb); (try clear hb2); (try clear hk); (try clear hi); (try clear ho0)) | ((with_reducible refine gate_callee (f := 12) rfl ?_); refine goesL_ (some 17) rfl rfl Try.func12 (by kernel_rfl) rfl #[.string t347] rfl (by (try simp only [List.map_toArray, List.map_cons, List.map_nil]); first | done | rfl | (simp only [List.length_drop, List.length_take]; rfl)) ?_; (with_reducible refine (breaks_May.calls k t347 t351 _ A5.out).mono ?_); rintro e w10 ⟨v352, rfl, ho0, hb⟩; refine ⟨_, rfl, ?_⟩; have n0_ := Aside0.mk (Kd.R_below (by (with_reducible repeat (first | apply Kd.R_alloc | apply Kd.R_drewN | apply Kd.R_drew)); exact HO350.out) hb); have n1_ := Aside0.mk (Kd.R_lower ho0 (below_size (by repeat (first | (with_reducible first | exact HB.out | apply below_alloc | apply pw_below_drewN | apply below_drew1) | exact HB.out)))); have n2_ := Aside0.mk (below_step (by repeat (first | (with_reducible first | exact HB.out | apply below_alloc | apply pw_below_drewN | apply below_drew1) | exact HB.out)) hb); clear HO350; clear HB; have HO350 := n0_; have HO353 := n1_; have HB := n2_; clear n0_ n1_ n2_; (try clear hb); (try clear hb2); (try clear hk); (try clear hi); (try clear ho0); obtain ⟨Ao11, co11, eo11⟩ := Kd.R_slice HO353.out; subst eo11; obtain ⟨Ao12, co12, eo12⟩ := Kd.R_slice HO350.out; subst eo12))
    go_loopg [7] k (fun kq v7 w' => ∃ (x7_1 : Int), v7 = .int .i64 x7_1 ∧ Aside0 (abugidalaw08_BreaksHeads.l0 kq t346 t347 t348 t351 x7_1 = some r) ∧ Aside0 (kq ≤ k) ∧ Aside0 (Kd.R k33 33 w' w.heap.size (fun _ => True) (.slice Ao12 t348.length co12) t348) ∧ Aside0 (Kd.R (Kd.int .i64) 3 w' w.heap.size (fun _ => True) (.slice Ao11 t351.length co11) t351) ∧ Aside0 (Below w.heap.size w w'))
    case atStart => exact ⟨(0), (by first | rfl | (simp; done) | (simp [*]; done)), H', ⟨Nat.le_refl _⟩, ⟨by (with_reducible repeat (first | apply Kd.R_alloc | apply Kd.R_drewN | apply Kd.R_drew)); exact HO350.out⟩, ⟨by (with_reducible repeat (first | apply Kd.R_alloc | apply Kd.R_drewN | apply Kd.R_drew)); exact HO353.out⟩, ⟨by repeat (first | (with_reducible first | exact HB.out | apply below_alloc | apply pw_below_drewN | apply below_drew1) | exact HB.out)⟩⟩
    case round =>
      clear H'
      try clear c1
      try clear p2
      try clear c4
      try clear c6
      try clear c6b0
      try clear c6b1
      try clear c6b2
      try clear c9
      try clear c10
      try clear c12
      obtain ⟨x7_1, rfl, HA, HK1, HO_5, HO_6, HB⟩ := hrel
      cases gk with
      | zero => exact absurd HA.out (by simp [abugidalaw08_BreaksHeads.l0])
      | succ k1 =>
        have H := HA.out
        clear HA
        simp only [abugidalaw08_BreaksHeads.l0] at H
        by_cases c13 : x7_1 < (t348.length : Int)
        · rw [if_pos c13] at H
          have c13b0 : decide (x7_1 < (t348.length : Int)) = true := decide_eq_true c13
          clear c13
          by_cases c14 : 0 ≤ x7_1
          · rw [if_pos c14] at H
            have c14b0 : decide (0 ≤ x7_1) = true := decide_eq_true c14
            clear c14
            replace H := Option.bind_eq_some_iff.mp H
            obtain ⟨t355, A150, H⟩ := H
            replace H : (if 0 ≤ t355 then (if t355 < (t347.size : Int) then ((chars_Class.f k1 (wrap64 (bt t347 t355))).bind fun t356 => (if x7_1 < (t351.length : Int) then (if (((rd t351 x7_1) == 2) != (t356 == 1)) = true then (abugidalaw08_BreaksHeads.j1 k1 t346 t347 t348 t351 x7_1 t356 true) else (if (rd t351 x7_1) < 0 then (abugidalaw08_BreaksHeads.j1 k1 t346 t347 t348 t351 x7_1 t356 true) else (abugidalaw08_BreaksHeads.j1 k1 t346 t347 t348 t351 x7_1 t356 (decide ((rd t351 x7_1) > 2))))) else (none))) else (none)) else (none)) = some r := H
            have A15 := Aside0.mk A150
            clear A150
            by_cases c16 : 0 ≤ t355
            · rw [if_pos c16] at H
              have c16b0 : decide (0 ≤ t355) = true := decide_eq_true c16
              clear c16
              by_cases c17 : t355 < (t347.size : Int)
              · rw [if_pos c17] at H
                have c17b0 : decide (t355 < (t347.size : Int)) = true := decide_eq_true c17
                clear c17
                replace H := Option.bind_eq_some_iff.mp H
                obtain ⟨t356, A190, H⟩ := H
                replace H : (if x7_1 < (t351.length : Int) then (if (((rd t351 x7_1) == 2) != (t356 == 1)) = true then (abugidalaw08_BreaksHeads.j1 k1 t346 t347 t348 t351 x7_1 t356 true) else (if (rd t351 x7_1) < 0 then (abugidalaw08_BreaksHeads.j1 k1 t346 t347 t348 t351 x7_1 t356 true) else (abugidalaw08_BreaksHeads.j1 k1 t346 t347 t348 t351 x7_1 t356 (decide ((rd t351 x7_1) > 2))))) else (none)) = some r := H
                have A19 := Aside0.mk A190
                clear A190
                have HC20 := Aside0.mk H
                clear H
                have p354 : 0 ≤ (x7_1 : Int) := of_decide_eq_true (by first | (with_reducible assumption) | assumption)
                have q354 : x7_1 < (t348.length : Int) := of_decide_eq_true (by first | (with_reducible assumption) | assumption)
                obtain ⟨ad354, e354, hx354_0, hx354_1⟩ := at_T33 (Kd.R_reads' HO_5.out).2.2 x7_1 p354 q354
                cases e354
                replace p354 := eq_true p354
                replace q354 := eq_true q354
                go_upto_region 11 with (first | ((with_reducible refine gate_callee (f := 16) rfl ?_); refine goesL_ (some 35) rfl rfl Try.func16 (by kernel_rfl) rfl #[.string t347, .agg #[.int .i64 ((rd_T33 t348 x7_1).f0), .int .i64 ((rd_T33 t348 x7_1).f1)]] rfl (by (try simp only [List.map_toArray, List.map_cons, List.map_nil]); first | done | rfl | (simp only [List.length_drop, List.length_take]; rfl)) ?_; (with_reducible refine (cluster_Base.calls k1 t347 ((rd_T33 t348 x7_1).f0) ((rd_T33 t348 x7_1).f1) t355 _ A15.out).mono ?_); rintro e w21 ⟨rfl, hb⟩; refine ⟨_, rfl, ?_⟩; have n0_ := Aside0.mk (Kd.R_below (by (with_reducible repeat (first | apply Kd.R_alloc | apply Kd.R_drewN | apply Kd.R_drew)); exact HO_5.out) hb); have n1_ := Aside0.mk (Kd.R_below (by (with_reducible repeat (first | apply Kd.R_alloc | apply Kd.R_drewN | apply Kd.R_drew)); exact HO_6.out) hb); have n2_ := Aside0.mk (below_step (by repeat (first | (with_reducible first | exact HB.out | apply below_alloc | apply pw_below_drewN | apply below_drew1) | exact HB.out)) hb); clear HO_5; clear HO_6; clear HB; have HO_5 := n0_; have HO_6 := n1_; have HB := n2_; clear n0_ n1_ n2_; (try clear hb); (try clear hb2); (try clear hk); (try clear hi); have p18 : 0 ≤ (t355 : Int) := of_decide_eq_true (by first | (with_reducible assumption) | assumption); have q18 : t355 < (t347.size : Int) := of_decide_eq_true (by first | (with_reducible assumption) | assumption); have hx18 := bt_at t347 t355; replace p18 := eq_true p18; replace q18 := eq_true q18) | ((with_reducible refine gate_callee (f := 15) rfl ?_); refine goesL_ (some 38) rfl rfl Try.func15 (by kernel_rfl) rfl #[.int .i64 (wrap64 (bt t347 t355))] rfl (by (try simp only [List.map_toArray, List.map_cons, List.map_nil]); first | done | rfl | (simp only [List.length_drop, List.length_take]; rfl)) ?_; (with_reducible refine (chars_Class.calls k1 (wrap64 (bt t347 t355)) t356 _ A19.out).mono ?_); rintro e w22 ⟨rfl, hb⟩; refine ⟨_, rfl, ?_⟩; have n0_ := Aside0.mk (Kd.R_below (by (with_reducible repeat (first | apply Kd.R_alloc | apply Kd.R_drewN | apply Kd.R_drew)); exact HO_5.out) hb); have n1_ := Aside0.mk (Kd.R_below (by (with_reducible repeat (first | apply Kd.R_alloc | apply Kd.R_drewN | apply Kd.R_drew)); exact HO_6.out) hb); have n2_ := Aside0.mk (below_step (by repeat (first | (with_reducible first | exact HB.out | apply below_alloc | apply pw_below_drewN | apply below_drew1) | exact HB.out)) hb); clear HO_5; clear HO_6; clear HB; have HO_5 := n0_; have HO_6 := n1_; have HB := n2_; clear n0_ n1_ n2_; (try clear hb); (try clear hb2); (try clear hk); (try clear hi)))
                (try simp only [Act.put, List.setIfInBounds_toArray, List.set_cons_zero, List.set_cons_succ])
                go_cut [60] (fun v60 wc => ∃ (kq : Nat) (x60_19 : Bool), v60 = .bool x60_19 ∧ Aside0 (abugidalaw08_BreaksHeads.j1 kq t346 t347 t348 t351 x7_1 t356 x60_19 = some r) ∧ Aside0 (kq ≤ k1) ∧ Aside0 (Kd.R k33 33 wc w.heap.size (fun _ => True) (.slice (some ad354) t348.length co12) t348) ∧ Aside0 (Kd.R (Kd.int .i64) 3 wc w.heap.size (fun _ => True) (.slice Ao11 t351.length co11) t351) ∧ Aside0 (Below w.heap.size w wc))
                case first =>
                  have H := HC20.out
                  clear HC20
                  by_cases c23 : x7_1 < (t351.length : Int)
                  · rw [if_pos c23] at H
                    have c23b0 : decide (x7_1 < (t351.length : Int)) = true := decide_eq_true c23
                    clear c23
                    (first | rw [c23b0] | (simp only [i64_w, i32_w]; rw [c23b0]) | skip)
                    by_cases c24 : (((rd t351 x7_1) == 2) != (t356 == 1)) = true
                    · rw [if_pos c24] at H
                      have c24b0 : (((rd t351 x7_1) == 2) != (t356 == 1)) = true := c24
                      (try (have c24b1 : decide (((rd t351 x7_1) == 2) = (t356 == 1)) = false := by simpa using c24))
                      (try (have c24b2 : (((rd t351 x7_1) == 2) == (t356 == 1)) = false := by simpa using c24))
                      (try (have c24b3 : ¬ (((rd t351 x7_1) == 2) = (t356 == 1)) := by simpa using c24))
                      clear c24
                      have H' := Aside0.mk H
                      clear H
                      have p357 : 0 ≤ (x7_1 : Int) := of_decide_eq_true (by first | (with_reducible assumption) | assumption)
                      have q357 : x7_1 < (t351.length : Int) := of_decide_eq_true (by first | (with_reducible assumption) | assumption)
                      obtain ⟨ad357, e357, hx357_0⟩ := Kd.at_int (Kd.R_reads' HO_6.out).2.2 x7_1 p357 q357
                      cases e357
                      replace p357 := eq_true p357
                      replace q357 := eq_true q357
                      go_wp2
                      go_meet
                      case rel => exact ⟨_, (true), (by first | rfl | (simp; done) | (simp [*]; done)), H', ⟨by have := HK1.out; first | omega | exact Nat.le_refl _⟩, ⟨by (with_reducible repeat (first | apply Kd.R_alloc | apply Kd.R_drewN | apply Kd.R_drew)); exact HO_5.out⟩, ⟨by (with_reducible repeat (first | apply Kd.R_alloc | apply Kd.R_drewN | apply Kd.R_drew)); exact HO_6.out⟩, ⟨by repeat (first | (with_reducible first | exact HB.out | apply below_alloc | apply pw_below_drewN | apply below_drew1) | exact HB.out)⟩⟩
                    · rw [if_neg c24] at H
                      have c24b0 : (((rd t351 x7_1) == 2) != (t356 == 1)) = false := by simpa using c24
                      (try (have c24b1 : decide (((rd t351 x7_1) == 2) = (t356 == 1)) = true := by simpa using c24))
                      (try (have c24b2 : (((rd t351 x7_1) == 2) == (t356 == 1)) = true := by simpa using c24))
                      clear c24
                      by_cases c25 : (rd t351 x7_1) < 0
                      · rw [if_pos c25] at H
                        have c25b0 : decide ((rd t351 x7_1) < 0) = true := decide_eq_true c25
                        clear c25
                        have H' := Aside0.mk H
                        clear H
                        have p357 : 0 ≤ (x7_1 : Int) := of_decide_eq_true (by first | (with_reducible assumption) | assumption)
                        have q357 : x7_1 < (t351.length : Int) := of_decide_eq_true (by first | (with_reducible assumption) | assumption)
                        obtain ⟨ad357, e357, hx357_0⟩ := Kd.at_int (Kd.R_reads' HO_6.out).2.2 x7_1 p357 q357
                        cases e357
                        replace p357 := eq_true p357
                        replace q357 := eq_true q357
                        have p358 : 0 ≤ (x7_1 : Int) := of_decide_eq_true (by first | (with_reducible assumption) | assumption)
                        have q358 : x7_1 < (t351.length : Int) := of_decide_eq_true (by first | (with_reducible assumption) | assumption)
                        obtain ⟨ad358, e358, hx358_0⟩ := Kd.at_int (Kd.R_reads' HO_6.out).2.2 x7_1 p358 q358
                        obtain rfl : ad357 = ad358 := (by injection e358)
                        replace p358 := eq_true p358
                        replace q358 := eq_true q358
                        go_wp2
                        go_meet
                        case rel => exact ⟨_, (true), (by first | rfl | (simp; done) | (simp [*]; done)), H', ⟨by have := HK1.out; first | omega | exact Nat.le_refl _⟩, ⟨by (with_reducible repeat (first | apply Kd.R_alloc | apply Kd.R_drewN | apply Kd.R_drew)); exact HO_5.out⟩, ⟨by (with_reducible repeat (first | apply Kd.R_alloc | apply Kd.R_drewN | apply Kd.R_drew)); exact HO_6.out⟩, ⟨by repeat (first | (with_reducible first | exact HB.out | apply below_alloc | apply pw_below_drewN | apply below_drew1) | exact HB.out)⟩⟩
                      · rw [if_neg c25] at H
                        have c25b0 : decide ((rd t351 x7_1) < 0) = false := decide_eq_false c25
                        clear c25
                        have H' := Aside0.mk H
                        clear H
                        have p357 : 0 ≤ (x7_1 : Int) := of_decide_eq_true (by first | (with_reducible assumption) | assumption)
                        have q357 : x7_1 < (t351.length : Int) := of_decide_eq_true (by first | (with_reducible assumption) | assumption)
                        obtain ⟨ad357, e357, hx357_0⟩ := Kd.at_int (Kd.R_reads' HO_6.out).2.2 x7_1 p357 q357
                        cases e357
                        replace p357 := eq_true p357
                        replace q357 := eq_true q357
                        have p358 : 0 ≤ (x7_1 : Int) := of_decide_eq_true (by first | (with_reducible assumption) | assumption)
                        have q358 : x7_1 < (t351.length : Int) := of_decide_eq_true (by first | (with_reducible assumption) | assumption)
                        obtain ⟨ad358, e358, hx358_0⟩ := Kd.at_int (Kd.R_reads' HO_6.out).2.2 x7_1 p358 q358
                        obtain rfl : ad357 = ad358 := (by injection e358)
                        replace p358 := eq_true p358
                        replace q358 := eq_true q358
                        have p359 : 0 ≤ (x7_1 : Int) := of_decide_eq_true (by first | (with_reducible assumption) | assumption)
                        have q359 : x7_1 < (t351.length : Int) := of_decide_eq_true (by first | (with_reducible assumption) | assumption)
                        obtain ⟨ad359, e359, hx359_0⟩ := Kd.at_int (Kd.R_reads' HO_6.out).2.2 x7_1 p359 q359
                        obtain rfl : ad357 = ad359 := (by injection e359)
                        replace p359 := eq_true p359
                        replace q359 := eq_true q359
                        go_wp2
                        go_meet
                        case rel => exact ⟨_, (decide ((rd t351 x7_1) > 2)), (by first | rfl | (simp; done) | (simp [*]; done)), H', ⟨by have := HK1.out; first | omega | exact Nat.le_refl _⟩, ⟨by (with_reducible repeat (first | apply Kd.R_alloc | apply Kd.R_drewN | apply Kd.R_drew)); exact HO_5.out⟩, ⟨by (with_reducible repeat (first | apply Kd.R_alloc | apply Kd.R_drewN | apply Kd.R_drew)); exact HO_6.out⟩, ⟨by repeat (first | (with_reducible first | exact HB.out | apply below_alloc | apply pw_below_drewN | apply below_drew1) | exact HB.out)⟩⟩
                  · rw [if_neg c23] at H
                    exact absurd H (by simp)
                case rest =>
                  clear HC20
                  try clear c1
                  try clear p1
                  try clear q1
                  try clear hx1
                  try clear c2
                  try clear p2
                  try clear p3
                  try clear q3
                  try clear hx3
                  try clear c4
                  try clear c6
                  try clear c6b0
                  try clear c6b1
                  try clear c6b2
                  try clear p6
                  try clear c9
                  try clear c10
                  try clear c12
                  try clear c13
                  try clear c13b0
                  try clear c14
                  try clear c14b0
                  try clear c15
                  try clear c16
                  try clear c16b0
                  try clear c17
                  try clear c17b0
                  try clear p18
                  try clear q18
                  try clear hx18
                  try clear c23
                  try clear c23b0
                  try clear c24
                  try clear c24b0
                  try clear c24b1
                  try clear c24b2
                  try clear c25
                  try clear c25b0
                  try clear hx354_0
                  try clear hx354_1
                  try clear hx357_0
                  try clear hx358_0
                  try clear hx359_0
                  try clear p18
                  try clear p2
                  try clear p354
                  try clear p357
                  try clear p358
                  try clear p359
                  try clear q18
                  try clear q354
                  try clear q357
                  try clear q358
                  try clear q359
                  obtain ⟨kq, x60_19, rfl, HA, HJ19, HO_5, HO_6, HB⟩ := hcut
                  cases kq with
                  | zero => exact absurd HA.out (by simp [abugidalaw08_BreaksHeads.j1])
                  | succ kj19 =>
                    have H := HA.out
                    clear HA
                    simp only [abugidalaw08_BreaksHeads.j1] at H
                    by_cases c26 : x60_19 = true
                    · subst c26
                      have H1 : (some false) = some r := by rw [if_pos rfl] at H; exact H
                      clear H
                      have H := H1
                      clear H1
                      obtain rfl := Option.some.inj H
                      go_wp2
                      go_ret
                      exact ⟨by first | rfl | (simp [errW_none, errW_some] <;> rfl) | (simp [*, errW_none, errW_some] <;> rfl), by repeat (first | (with_reducible first | exact HB.out | apply below_alloc | apply pw_below_drewN | apply below_drew1) | exact HB.out)⟩
                    · replace c26 := Bool.eq_false_iff.mpr c26
                      subst c26
                      have H1 : (if x7_1 = (wrap64 ((t348.length : Int) - 1)) then (abugidalaw08_BreaksHeads.l0 kj19 t346 t347 t348 t351 (wrap64 (x7_1 + 1))) else (if 0 ≤ (wrap64 (x7_1 + 1)) then (if (wrap64 (x7_1 + 1)) < (t348.length : Int) then ((cluster_Base.f kj19 t347 ((rd_T33 t348 (wrap64 (x7_1 + 1))).f0) ((rd_T33 t348 (wrap64 (x7_1 + 1))).f1)).bind fun t361 => (if 0 ≤ t361 then (if t361 < (t347.size : Int) then ((chars_Class.f kj19 (wrap64 (bt t347 t361))).bind fun t362 => (if t362 = 1 then (if 0 ≤ x7_1 then (if x7_1 < (t351.length : Int) then (if (rd t351 x7_1) = 1 then (some false) else (if t356 = 2 then (abugidalaw08_BreaksHeads.l0 kj19 t346 t347 t348 t351 (wrap64 (x7_1 + 1))) else (abugidalaw08_BreaksHeads.l0 kj19 t346 t347 t348 t351 (wrap64 (x7_1 + 1))))) else (none)) else (none)) else (if t362 = 2 then (if 0 ≤ x7_1 then (if x7_1 < (t351.length : Int) then (if (rd t351 x7_1) = 1 then (some false) else (if t356 = 2 then (abugidalaw08_BreaksHeads.l0 kj19 t346 t347 t348 t351 (wrap64 (x7_1 + 1))) else (abugidalaw08_BreaksHeads.l0 kj19 t346 t347 t348 t351 (wrap64 (x7_1 + 1))))) else (none)) else (none)) else (if 0 ≤ x7_1 then (if x7_1 < (t351.length : Int) then (if (rd t351 x7_1) = 1 then (if t362 = 4 then (some false) else (if t356 = 2 then (abugidalaw08_BreaksHeads.l0 kj19 t346 t347 t348 t351 (wrap64 (x7_1 + 1))) else (abugidalaw08_BreaksHeads.l0 kj19 t346 t347 t348 t351 (wrap64 (x7_1 + 1))))) else (if t356 = 2 then (if t362 = 4 then (abugidalaw08_BreaksHeads.l0 kj19 t346 t347 t348 t351 (wrap64 (x7_1 + 1))) else (some false)) else (abugidalaw08_BreaksHeads.l0 kj19 t346 t347 t348 t351 (wrap64 (x7_1 + 1))))) else (none)) else (none))))) else (none)) else (none))) else (none)) else (none))) = some r := by rw [if_neg (show ¬ (false = true) by decide)] at H; exact H
                      clear H
                      have H := H1
                      clear H1
                      by_cases c27 : x7_1 = (wrap64 ((t348.length : Int) - 1))
                      · rw [if_pos c27] at H
                        have c27b0 : (x7_1 == (wrap64 ((t348.length : Int) - 1))) = true := beq_iff_eq.mpr c27
                        have c27b1 : (x7_1 != (wrap64 ((t348.length : Int) - 1))) = false := bne_eq_false_iff_eq.mpr c27
                        clear c27
                        have H' := Aside0.mk H
                        clear H
                        go_wp2
                        go_roundg kj19
                        case measure => have := HK1.out; have := HJ19.out; omega
                        case rel => exact ⟨(wrap64 (x7_1 + 1)), (by first | rfl | (simp; done) | (simp [*]; done)), H', ⟨by have := HK1.out; have := HJ19.out; omega⟩, ⟨by (with_reducible repeat (first | apply Kd.R_alloc | apply Kd.R_drewN | apply Kd.R_drew)); exact HO_5.out⟩, ⟨by (with_reducible repeat (first | apply Kd.R_alloc | apply Kd.R_drewN | apply Kd.R_drew)); exact HO_6.out⟩, ⟨by repeat (first | (with_reducible first | exact HB.out | apply below_alloc | apply pw_below_drewN | apply below_drew1) | exact HB.out)⟩⟩
                      · rw [if_neg c27] at H
                        have c27b0 : (x7_1 == (wrap64 ((t348.length : Int) - 1))) = false := beq_eq_false_iff_ne.mpr c27
                        have c27b1 : (x7_1 != (wrap64 ((t348.length : Int) - 1))) = true := bne_iff_ne.mpr c27
                        obtain ⟨ji28, hji28⟩ : ∃ j_ : Int, (wrap64 (x7_1 + 1)) = j_ := ⟨_, rfl⟩
                        replace H : (if 0 ≤ (ji28) then (if (ji28) < (t348.length : Int) then ((cluster_Base.f kj19 t347 ((rd_T33 t348 (ji28)).f0) ((rd_T33 t348 (ji28)).f1)).bind fun t361 => (if 0 ≤ t361 then (if t361 < (t347.size : Int) then ((chars_Class.f kj19 (wrap64 (bt t347 t361))).bind fun t362 => (if t362 = 1 then (if 0 ≤ x7_1 then (if x7_1 < (t351.length : Int) then (if (rd t351 x7_1) = 1 then (some false) else (if t356 = 2 then (abugidalaw08_BreaksHeads.l0 kj19 t346 t347 t348 t351 ji28) else (abugidalaw08_BreaksHeads.l0 kj19 t346 t347 t348 t351 ji28))) else (none)) else (none)) else (if t362 = 2 then (if 0 ≤ x7_1 then (if x7_1 < (t351.length : Int) then (if (rd t351 x7_1) = 1 then (some false) else (if t356 = 2 then (abugidalaw08_BreaksHeads.l0 kj19 t346 t347 t348 t351 ji28) else (abugidalaw08_BreaksHeads.l0 kj19 t346 t347 t348 t351 ji28))) else (none)) else (none)) else (if 0 ≤ x7_1 then (if x7_1 < (t351.length : Int) then (if (rd t351 x7_1) = 1 then (if t362 = 4 then (some false) else (if t356 = 2 then (abugidalaw08_BreaksHeads.l0 kj19 t346 t347 t348 t351 ji28) else (abugidalaw08_BreaksHeads.l0 kj19 t346 t347 t348 t351 ji28))) else (if t356 = 2 then (if t362 = 4 then (abugidalaw08_BreaksHeads.l0 kj19 t346 t347 t348 t351 ji28) else (some false)) else (abugidalaw08_BreaksHeads.l0 kj19 t346 t347 t348 t351 ji28))) else (none)) else (none))))) else (none)) else (none))) else (none)) else (none)) = some r := by first | (rw [hji28] at H; exact H) | (simp only [hji28] at H ⊢; exact H)
                        have hji28w : (IntKind.i64.wrap (x7_1 + 1)) = ji28 := (i64_w _).trans hji28
                        by_cases c29 : 0 ≤ (ji28)
                        · rw [if_pos c29] at H
                          have c29b0 : decide (0 ≤ (ji28)) = true := decide_eq_true c29
                          clear c29
                          by_cases c30 : (ji28) < (t348.length : Int)
                          · rw [if_pos c30] at H
                            have c30b0 : decide ((ji28) < (t348.length : Int)) = true := decide_eq_true c30
                            clear c30
                            replace H := Option.bind_eq_some_iff.mp H
                            obtain ⟨t361, A310, H⟩ := H
                            replace H : (if 0 ≤ t361 then (if t361 < (t347.size : Int) then ((chars_Class.f kj19 (wrap64 (bt t347 t361))).bind fun t362 => (if t362 = 1 then (if 0 ≤ x7_1 then (if x7_1 < (t351.length : Int) then (if (rd t351 x7_1) = 1 then (some false) else (if t356 = 2 then (abugidalaw08_BreaksHeads.l0 kj19 t346 t347 t348 t351 ji28) else (abugidalaw08_BreaksHeads.l0 kj19 t346 t347 t348 t351 ji28))) else (none)) else (none)) else (if t362 = 2 then (if 0 ≤ x7_1 then (if x7_1 < (t351.length : Int) then (if (rd t351 x7_1) = 1 then (some false) else (if t356 = 2 then (abugidalaw08_BreaksHeads.l0 kj19 t346 t347 t348 t351 ji28) else (abugidalaw08_BreaksHeads.l0 kj19 t346 t347 t348 t351 ji28))) else (none)) else (none)) else (if 0 ≤ x7_1 then (if x7_1 < (t351.length : Int) then (if (rd t351 x7_1) = 1 then (if t362 = 4 then (some false) else (if t356 = 2 then (abugidalaw08_BreaksHeads.l0 kj19 t346 t347 t348 t351 ji28) else (abugidalaw08_BreaksHeads.l0 kj19 t346 t347 t348 t351 ji28))) else (if t356 = 2 then (if t362 = 4 then (abugidalaw08_BreaksHeads.l0 kj19 t346 t347 t348 t351 ji28) else (some false)) else (abugidalaw08_BreaksHeads.l0 kj19 t346 t347 t348 t351 ji28))) else (none)) else (none))))) else (none)) else (none)) = some r := H
                            have A31 := Aside0.mk A310
                            clear A310
                            by_cases c32 : 0 ≤ t361
                            · rw [if_pos c32] at H
                              have c32b0 : decide (0 ≤ t361) = true := decide_eq_true c32
                              clear c32
                              by_cases c33 : t361 < (t347.size : Int)
                              · rw [if_pos c33] at H
                                have c33b0 : decide (t361 < (t347.size : Int)) = true := decide_eq_true c33
                                clear c33
                                replace H := Option.bind_eq_some_iff.mp H
                                obtain ⟨t362, A350, H⟩ := H
                                replace H : (if t362 = 1 then (if 0 ≤ x7_1 then (if x7_1 < (t351.length : Int) then (if (rd t351 x7_1) = 1 then (some false) else (if t356 = 2 then (abugidalaw08_BreaksHeads.l0 kj19 t346 t347 t348 t351 ji28) else (abugidalaw08_BreaksHeads.l0 kj19 t346 t347 t348 t351 ji28))) else (none)) else (none)) else (if t362 = 2 then (if 0 ≤ x7_1 then (if x7_1 < (t351.length : Int) then (if (rd t351 x7_1) = 1 then (some false) else (if t356 = 2 then (abugidalaw08_BreaksHeads.l0 kj19 t346 t347 t348 t351 ji28) else (abugidalaw08_BreaksHeads.l0 kj19 t346 t347 t348 t351 ji28))) else (none)) else (none)) else (if 0 ≤ x7_1 then (if x7_1 < (t351.length : Int) then (if (rd t351 x7_1) = 1 then (if t362 = 4 then (some false) else (if t356 = 2 then (abugidalaw08_BreaksHeads.l0 kj19 t346 t347 t348 t351 ji28) else (abugidalaw08_BreaksHeads.l0 kj19 t346 t347 t348 t351 ji28))) else (if t356 = 2 then (if t362 = 4 then (abugidalaw08_BreaksHeads.l0 kj19 t346 t347 t348 t351 ji28) else (some false)) else (abugidalaw08_BreaksHeads.l0 kj19 t346 t347 t348 t351 ji28))) else (none)) else (none)))) = some r := H
                                have A35 := Aside0.mk A350
                                clear A350
                                by_cases c36 : t362 = 1
                                · rw [if_pos c36] at H
                                  have c36b0 : (t362 == 1) = true := beq_iff_eq.mpr c36
                                  have c36b1 : (t362 != 1) = false := bne_eq_false_iff_eq.mpr c36
                                  clear c36
                                  by_cases c37 : 0 ≤ x7_1
                                  · rw [if_pos c37] at H
                                    have c37b0 : decide (0 ≤ x7_1) = true := decide_eq_true c37
                                    clear c37
                                    by_cases c38 : x7_1 < (t351.length : Int)
                                    · rw [if_pos c38] at H
                                      have c38b0 : decide (x7_1 < (t351.length : Int)) = true := decide_eq_true c38
                                      clear c38
                                      by_cases c39 : (rd t351 x7_1) = 1
                                      · rw [if_pos c39] at H
                                        have c39b0 : ((rd t351 x7_1) == 1) = true := beq_iff_eq.mpr c39
                                        have c39b1 : ((rd t351 x7_1) != 1) = false := bne_eq_false_iff_eq.mpr c39
                                        clear c39
                                        obtain rfl := Option.some.inj H
                                        have p360 : 0 ≤ ((ji28) : Int) := of_decide_eq_true (by first | (with_reducible assumption) | assumption)
                                        have q360 : (ji28) < (t348.length : Int) := of_decide_eq_true (by first | (with_reducible assumption) | assumption)
                                        obtain ⟨ad360, e360, hx360_0, hx360_1⟩ := at_T33 (Kd.R_reads' HO_5.out).2.2 (ji28) p360 q360
                                        obtain rfl : ad354 = ad360 := (by injection e360)
                                        replace p360 := eq_true p360
                                        replace q360 := eq_true q360
                                        go_wp2_with (first | ((with_reducible refine gate_callee (f := 16) rfl ?_); refine goesL_ (some 73) rfl rfl Try.func16 (by kernel_rfl) rfl #[.string t347, .agg #[.int .i64 ((rd_T33 t348 (ji28)).f0), .int .i64 ((rd_T33 t348 (ji28)).f1)]] rfl (by (try simp only [List.map_toArray, List.map_cons, List.map_nil]); first | done | (simp only [hji28]; rfl) | rfl | (simp only [List.length_drop, List.length_take]; rfl)) ?_; (with_reducible refine (cluster_Base.calls kj19 t347 ((rd_T33 t348 (ji28)).f0) ((rd_T33 t348 (ji28)).f1) t361 _ A31.out).mono ?_); rintro e w40 ⟨rfl, hb⟩; refine ⟨_, rfl, ?_⟩; have n0_ := Aside0.mk (Kd.R_below (by (with_reducible repeat (first | apply Kd.R_alloc | apply Kd.R_drewN | apply Kd.R_drew)); exact HO_5.out) hb); have n1_ := Aside0.mk (Kd.R_below (by (with_reducible repeat (first | apply Kd.R_alloc | apply Kd.R_drewN | apply Kd.R_drew)); exact HO_6.out) hb); have n2_ := Aside0.mk (below_step (by repeat (first | (with_reducible first | exact HB.out | apply below_alloc | apply pw_below_drewN | apply below_drew1) | exact HB.out)) hb); clear HO_5; clear HO_6; clear HB; have HO_5 := n0_; have HO_6 := n1_; have HB := n2_; clear n0_ n1_ n2_; (try clear hb); (try clear hb2); (try clear hk); (try clear hi); have p34 : 0 ≤ (t361 : Int) := of_decide_eq_true (by first | (with_reducible assumption) | assumption); have q34 : t361 < (t347.size : Int) := of_decide_eq_true (by first | (with_reducible assumption) | assumption); have hx34 := bt_at t347 t361; replace p34 := eq_true p34; replace q34 := eq_true q34) | ((with_reducible refine gate_callee (f := 15) rfl ?_); refine goesL_ (some 76) rfl rfl Try.func15 (by kernel_rfl) rfl #[.int .i64 (wrap64 (bt t347 t361))] rfl (by (try simp only [List.map_toArray, List.map_cons, List.map_nil]); first | done | rfl | (simp only [List.length_drop, List.length_take]; rfl)) ?_; (with_reducible refine (chars_Class.calls kj19 (wrap64 (bt t347 t361)) t362 _ A35.out).mono ?_); rintro e w41 ⟨rfl, hb⟩; refine ⟨_, rfl, ?_⟩; have n0_ := Aside0.mk (Kd.R_below (by (with_reducible repeat (first | apply Kd.R_alloc | apply Kd.R_drewN | apply Kd.R_drew)); exact HO_5.out) hb); have n1_ := Aside0.mk (Kd.R_below (by (with_reducible repeat (first | apply Kd.R_alloc | apply Kd.R_drewN | apply Kd.R_drew)); exact HO_6.out) hb); have n2_ := Aside0.mk (below_step (by repeat (first | (with_reducible first | exact HB.out | apply below_alloc | apply pw_below_drewN | apply below_drew1) | exact HB.out)) hb); clear HO_5; clear HO_6; clear HB; have HO_5 := n0_; have HO_6 := n1_; have HB := n2_; clear n0_ n1_ n2_; (try clear hb); (try clear hb2); (try clear hk); (try clear hi); have p363 : 0 ≤ (x7_1 : Int) := of_decide_eq_true (by first | (with_reducible assumption) | assumption); have q363 : x7_1 < (t351.length : Int) := of_decide_eq_true (by first | (with_reducible assumption) | assumption); obtain ⟨ad363, e363, hx363_0⟩ := Kd.at_int (Kd.R_reads' HO_6.out).2.2 x7_1 p363 q363; cases e363; replace p363 := eq_true p363; replace q363 := eq_true q363))
                                        go_ret
                                        exact ⟨by first | rfl | (simp [errW_none, errW_some] <;> rfl) | (simp only [← hji28]; first | rfl | (simp [errW_none, errW_some] <;> rfl)) | (simp [*, errW_none, errW_some] <;> rfl), by repeat (first | (with_reducible first | exact HB.out | apply below_alloc | apply pw_below_drewN | apply below_drew1) | exact HB.out)⟩
                                      · rw [if_neg c39] at H
                                        have c39b0 : ((rd t351 x7_1) == 1) = false := beq_eq_false_iff_ne.mpr c39
                                        have c39b1 : ((rd t351 x7_1) != 1) = true := bne_iff_ne.mpr c39
                                        by_cases c42 : t356 = 2
                                        · rw [if_pos c42] at H
                                          have c42b0 : (t356 == 2) = true := beq_iff_eq.mpr c42
                                          have c42b1 : (t356 != 2) = false := bne_eq_false_iff_eq.mpr c42
                                          clear c42
                                          have H' := Aside0.mk H
                                          clear H
                                          have p360 : 0 ≤ ((ji28) : Int) := of_decide_eq_true (by first | (with_reducible assumption) | assumption)
                                          have q360 : (ji28) < (t348.length : Int) := of_decide_eq_true (by first | (with_reducible assumption) | assumption)
                                          obtain ⟨ad360, e360, hx360_0, hx360_1⟩ := at_T33 (Kd.R_reads' HO_5.out).2.2 (ji28) p360 q360
                                          obtain rfl : ad354 = ad360 := (by injection e360)
                                          replace p360 := eq_true p360
                                          replace q360 := eq_true q360
                                          go_wp2_with (first | ((with_reducible refine gate_callee (f := 16) rfl ?_); refine goesL_ (some 73) rfl rfl Try.func16 (by kernel_rfl) rfl #[.string t347, .agg #[.int .i64 ((rd_T33 t348 (ji28)).f0), .int .i64 ((rd_T33 t348 (ji28)).f1)]] rfl (by (try simp only [List.map_toArray, List.map_cons, List.map_nil]); first | done | (simp only [hji28]; rfl) | rfl | (simp only [List.length_drop, List.length_take]; rfl)) ?_; (with_reducible refine (cluster_Base.calls kj19 t347 ((rd_T33 t348 (ji28)).f0) ((rd_T33 t348 (ji28)).f1) t361 _ A31.out).mono ?_); rintro e w43 ⟨rfl, hb⟩; refine ⟨_, rfl, ?_⟩; have n0_ := Aside0.mk (Kd.R_below (by (with_reducible repeat (first | apply Kd.R_alloc | apply Kd.R_drewN | apply Kd.R_drew)); exact HO_5.out) hb); have n1_ := Aside0.mk (Kd.R_below (by (with_reducible repeat (first | apply Kd.R_alloc | apply Kd.R_drewN | apply Kd.R_drew)); exact HO_6.out) hb); have n2_ := Aside0.mk (below_step (by repeat (first | (with_reducible first | exact HB.out | apply below_alloc | apply pw_below_drewN | apply below_drew1) | exact HB.out)) hb); clear HO_5; clear HO_6; clear HB; have HO_5 := n0_; have HO_6 := n1_; have HB := n2_; clear n0_ n1_ n2_; (try clear hb); (try clear hb2); (try clear hk); (try clear hi); have p34 : 0 ≤ (t361 : Int) := of_decide_eq_true (by first | (with_reducible assumption) | assumption); have q34 : t361 < (t347.size : Int) := of_decide_eq_true (by first | (with_reducible assumption) | assumption); have hx34 := bt_at t347 t361; replace p34 := eq_true p34; replace q34 := eq_true q34) | ((with_reducible refine gate_callee (f := 15) rfl ?_); refine goesL_ (some 76) rfl rfl Try.func15 (by kernel_rfl) rfl #[.int .i64 (wrap64 (bt t347 t361))] rfl (by (try simp only [List.map_toArray, List.map_cons, List.map_nil]); first | done | rfl | (simp only [List.length_drop, List.length_take]; rfl)) ?_; (with_reducible refine (chars_Class.calls kj19 (wrap64 (bt t347 t361)) t362 _ A35.out).mono ?_); rintro e w44 ⟨rfl, hb⟩; refine ⟨_, rfl, ?_⟩; have n0_ := Aside0.mk (Kd.R_below (by (with_reducible repeat (first | apply Kd.R_alloc | apply Kd.R_drewN | apply Kd.R_drew)); exact HO_5.out) hb); have n1_ := Aside0.mk (Kd.R_below (by (with_reducible repeat (first | apply Kd.R_alloc | apply Kd.R_drewN | apply Kd.R_drew)); exact HO_6.out) hb); have n2_ := Aside0.mk (below_step (by repeat (first | (with_reducible first | exact HB.out | apply below_alloc | apply pw_below_drewN | apply below_drew1) | exact HB.out)) hb); clear HO_5; clear HO_6; clear HB; have HO_5 := n0_; have HO_6 := n1_; have HB := n2_; clear n0_ n1_ n2_; (try clear hb); (try clear hb2); (try clear hk); (try clear hi); have p363 : 0 ≤ (x7_1 : Int) := of_decide_eq_true (by first | (with_reducible assumption) | assumption); have q363 : x7_1 < (t351.length : Int) := of_decide_eq_true (by first | (with_reducible assumption) | assumption); obtain ⟨ad363, e363, hx363_0⟩ := Kd.at_int (Kd.R_reads' HO_6.out).2.2 x7_1 p363 q363; cases e363; replace p363 := eq_true p363; replace q363 := eq_true q363))
                                          go_roundg kj19
                                          case measure => have := HK1.out; have := HJ19.out; omega
                                          case rel => exact ⟨(ji28), (by first | rfl | (simp; done) | (simp only [← hji28] <;> (first | rfl | simp)) | (simp [*]; done)), H', ⟨by have := HK1.out; have := HJ19.out; omega⟩, ⟨by (with_reducible repeat (first | apply Kd.R_alloc | apply Kd.R_drewN | apply Kd.R_drew)); exact HO_5.out⟩, ⟨by (with_reducible repeat (first | apply Kd.R_alloc | apply Kd.R_drewN | apply Kd.R_drew)); exact HO_6.out⟩, ⟨by repeat (first | (with_reducible first | exact HB.out | apply below_alloc | apply pw_below_drewN | apply below_drew1) | exact HB.out)⟩⟩
                                        · rw [if_neg c42] at H
                                          have c42b0 : (t356 == 2) = false := beq_eq_false_iff_ne.mpr c42
                                          have c42b1 : (t356 != 2) = true := bne_iff_ne.mpr c42
                                          have H' := Aside0.mk H
                                          clear H
                                          have p360 : 0 ≤ ((ji28) : Int) := of_decide_eq_true (by first | (with_reducible assumption) | assumption)
                                          have q360 : (ji28) < (t348.length : Int) := of_decide_eq_true (by first | (with_reducible assumption) | assumption)
                                          obtain ⟨ad360, e360, hx360_0, hx360_1⟩ := at_T33 (Kd.R_reads' HO_5.out).2.2 (ji28) p360 q360
                                          obtain rfl : ad354 = ad360 := (by injection e360)
                                          replace p360 := eq_true p360
                                          replace q360 := eq_true q360
                                          go_wp2_with (first | ((with_reducible refine gate_callee (f := 16) rfl ?_); refine goesL_ (some 73) rfl rfl Try.func16 (by kernel_rfl) rfl #[.string t347, .agg #[.int .i64 ((rd_T33 t348 (ji28)).f0), .int .i64 ((rd_T33 t348 (ji28)).f1)]] rfl (by (try simp only [List.map_toArray, List.map_cons, List.map_nil]); first | done | (simp only [hji28]; rfl) | rfl | (simp only [List.length_drop, List.length_take]; rfl)) ?_; (with_reducible refine (cluster_Base.calls kj19 t347 ((rd_T33 t348 (ji28)).f0) ((rd_T33 t348 (ji28)).f1) t361 _ A31.out).mono ?_); rintro e w45 ⟨rfl, hb⟩; refine ⟨_, rfl, ?_⟩; have n0_ := Aside0.mk (Kd.R_below (by (with_reducible repeat (first | apply Kd.R_alloc | apply Kd.R_drewN | apply Kd.R_drew)); exact HO_5.out) hb); have n1_ := Aside0.mk (Kd.R_below (by (with_reducible repeat (first | apply Kd.R_alloc | apply Kd.R_drewN | apply Kd.R_drew)); exact HO_6.out) hb); have n2_ := Aside0.mk (below_step (by repeat (first | (with_reducible first | exact HB.out | apply below_alloc | apply pw_below_drewN | apply below_drew1) | exact HB.out)) hb); clear HO_5; clear HO_6; clear HB; have HO_5 := n0_; have HO_6 := n1_; have HB := n2_; clear n0_ n1_ n2_; (try clear hb); (try clear hb2); (try clear hk); (try clear hi); have p34 : 0 ≤ (t361 : Int) := of_decide_eq_true (by first | (with_reducible assumption) | assumption); have q34 : t361 < (t347.size : Int) := of_decide_eq_true (by first | (with_reducible assumption) | assumption); have hx34 := bt_at t347 t361; replace p34 := eq_true p34; replace q34 := eq_true q34) | ((with_reducible refine gate_callee (f := 15) rfl ?_); refine goesL_ (some 76) rfl rfl Try.func15 (by kernel_rfl) rfl #[.int .i64 (wrap64 (bt t347 t361))] rfl (by (try simp only [List.map_toArray, List.map_cons, List.map_nil]); first | done | rfl | (simp only [List.length_drop, List.length_take]; rfl)) ?_; (with_reducible refine (chars_Class.calls kj19 (wrap64 (bt t347 t361)) t362 _ A35.out).mono ?_); rintro e w46 ⟨rfl, hb⟩; refine ⟨_, rfl, ?_⟩; have n0_ := Aside0.mk (Kd.R_below (by (with_reducible repeat (first | apply Kd.R_alloc | apply Kd.R_drewN | apply Kd.R_drew)); exact HO_5.out) hb); have n1_ := Aside0.mk (Kd.R_below (by (with_reducible repeat (first | apply Kd.R_alloc | apply Kd.R_drewN | apply Kd.R_drew)); exact HO_6.out) hb); have n2_ := Aside0.mk (below_step (by repeat (first | (with_reducible first | exact HB.out | apply below_alloc | apply pw_below_drewN | apply below_drew1) | exact HB.out)) hb); clear HO_5; clear HO_6; clear HB; have HO_5 := n0_; have HO_6 := n1_; have HB := n2_; clear n0_ n1_ n2_; (try clear hb); (try clear hb2); (try clear hk); (try clear hi); have p363 : 0 ≤ (x7_1 : Int) := of_decide_eq_true (by first | (with_reducible assumption) | assumption); have q363 : x7_1 < (t351.length : Int) := of_decide_eq_true (by first | (with_reducible assumption) | assumption); obtain ⟨ad363, e363, hx363_0⟩ := Kd.at_int (Kd.R_reads' HO_6.out).2.2 x7_1 p363 q363; cases e363; replace p363 := eq_true p363; replace q363 := eq_true q363))
                                          go_roundg kj19
                                          case measure => have := HK1.out; have := HJ19.out; omega
                                          case rel => exact ⟨(ji28), (by first | rfl | (simp; done) | (simp only [← hji28] <;> (first | rfl | simp)) | (simp [*]; done)), H', ⟨by have := HK1.out; have := HJ19.out; omega⟩, ⟨by (with_reducible repeat (first | apply Kd.R_alloc | apply Kd.R_drewN | apply Kd.R_drew)); exact HO_5.out⟩, ⟨by (with_reducible repeat (first | apply Kd.R_alloc | apply Kd.R_drewN | apply Kd.R_drew)); exact HO_6.out⟩, ⟨by repeat (first | (with_reducible first | exact HB.out | apply below_alloc | apply pw_below_drewN | apply below_drew1) | exact HB.out)⟩⟩
                                    · rw [if_neg c38] at H
                                      exact absurd H (by simp)
                                  · rw [if_neg c37] at H
                                    exact absurd H (by simp)
                                · rw [if_neg c36] at H
                                  have c36b0 : (t362 == 1) = false := beq_eq_false_iff_ne.mpr c36
                                  have c36b1 : (t362 != 1) = true := bne_iff_ne.mpr c36
                                  by_cases c47 : t362 = 2
                                  · rw [if_pos c47] at H
                                    have c47b0 : (t362 == 2) = true := beq_iff_eq.mpr c47
                                    have c47b1 : (t362 != 2) = false := bne_eq_false_iff_eq.mpr c47
                                    clear c47
                                    by_cases c48 : 0 ≤ x7_1
                                    · rw [if_pos c48] at H
                                      have c48b0 : decide (0 ≤ x7_1) = true := decide_eq_true c48
                                      clear c48
                                      by_cases c49 : x7_1 < (t351.length : Int)
                                      · rw [if_pos c49] at H
                                        have c49b0 : decide (x7_1 < (t351.length : Int)) = true := decide_eq_true c49
                                        clear c49
                                        by_cases c50 : (rd t351 x7_1) = 1
                                        · rw [if_pos c50] at H
                                          have c50b0 : ((rd t351 x7_1) == 1) = true := beq_iff_eq.mpr c50
                                          have c50b1 : ((rd t351 x7_1) != 1) = false := bne_eq_false_iff_eq.mpr c50
                                          clear c50
                                          obtain rfl := Option.some.inj H
                                          have p360 : 0 ≤ ((ji28) : Int) := of_decide_eq_true (by first | (with_reducible assumption) | assumption)
                                          have q360 : (ji28) < (t348.length : Int) := of_decide_eq_true (by first | (with_reducible assumption) | assumption)
                                          obtain ⟨ad360, e360, hx360_0, hx360_1⟩ := at_T33 (Kd.R_reads' HO_5.out).2.2 (ji28) p360 q360
                                          obtain rfl : ad354 = ad360 := (by injection e360)
                                          replace p360 := eq_true p360
                                          replace q360 := eq_true q360
                                          go_wp2_with (first | ((with_reducible refine gate_callee (f := 16) rfl ?_); refine goesL_ (some 73) rfl rfl Try.func16 (by kernel_rfl) rfl #[.string t347, .agg #[.int .i64 ((rd_T33 t348 (ji28)).f0), .int .i64 ((rd_T33 t348 (ji28)).f1)]] rfl (by (try simp only [List.map_toArray, List.map_cons, List.map_nil]); first | done | (simp only [hji28]; rfl) | rfl | (simp only [List.length_drop, List.length_take]; rfl)) ?_; (with_reducible refine (cluster_Base.calls kj19 t347 ((rd_T33 t348 (ji28)).f0) ((rd_T33 t348 (ji28)).f1) t361 _ A31.out).mono ?_); rintro e w51 ⟨rfl, hb⟩; refine ⟨_, rfl, ?_⟩; have n0_ := Aside0.mk (Kd.R_below (by (with_reducible repeat (first | apply Kd.R_alloc | apply Kd.R_drewN | apply Kd.R_drew)); exact HO_5.out) hb); have n1_ := Aside0.mk (Kd.R_below (by (with_reducible repeat (first | apply Kd.R_alloc | apply Kd.R_drewN | apply Kd.R_drew)); exact HO_6.out) hb); have n2_ := Aside0.mk (below_step (by repeat (first | (with_reducible first | exact HB.out | apply below_alloc | apply pw_below_drewN | apply below_drew1) | exact HB.out)) hb); clear HO_5; clear HO_6; clear HB; have HO_5 := n0_; have HO_6 := n1_; have HB := n2_; clear n0_ n1_ n2_; (try clear hb); (try clear hb2); (try clear hk); (try clear hi); have p34 : 0 ≤ (t361 : Int) := of_decide_eq_true (by first | (with_reducible assumption) | assumption); have q34 : t361 < (t347.size : Int) := of_decide_eq_true (by first | (with_reducible assumption) | assumption); have hx34 := bt_at t347 t361; replace p34 := eq_true p34; replace q34 := eq_true q34) | ((with_reducible refine gate_callee (f := 15) rfl ?_); refine goesL_ (some 76) rfl rfl Try.func15 (by kernel_rfl) rfl #[.int .i64 (wrap64 (bt t347 t361))] rfl (by (try simp only [List.map_toArray, List.map_cons, List.map_nil]); first | done | rfl | (simp only [List.length_drop, List.length_take]; rfl)) ?_; (with_reducible refine (chars_Class.calls kj19 (wrap64 (bt t347 t361)) t362 _ A35.out).mono ?_); rintro e w52 ⟨rfl, hb⟩; refine ⟨_, rfl, ?_⟩; have n0_ := Aside0.mk (Kd.R_below (by (with_reducible repeat (first | apply Kd.R_alloc | apply Kd.R_drewN | apply Kd.R_drew)); exact HO_5.out) hb); have n1_ := Aside0.mk (Kd.R_below (by (with_reducible repeat (first | apply Kd.R_alloc | apply Kd.R_drewN | apply Kd.R_drew)); exact HO_6.out) hb); have n2_ := Aside0.mk (below_step (by repeat (first | (with_reducible first | exact HB.out | apply below_alloc | apply pw_below_drewN | apply below_drew1) | exact HB.out)) hb); clear HO_5; clear HO_6; clear HB; have HO_5 := n0_; have HO_6 := n1_; have HB := n2_; clear n0_ n1_ n2_; (try clear hb); (try clear hb2); (try clear hk); (try clear hi); have p364 : 0 ≤ (x7_1 : Int) := of_decide_eq_true (by first | (with_reducible assumption) | assumption); have q364 : x7_1 < (t351.length : Int) := of_decide_eq_true (by first | (with_reducible assumption) | assumption); obtain ⟨ad364, e364, hx364_0⟩ := Kd.at_int (Kd.R_reads' HO_6.out).2.2 x7_1 p364 q364; cases e364; replace p364 := eq_true p364; replace q364 := eq_true q364))
                                          go_ret
                                          exact ⟨by first | rfl | (simp [errW_none, errW_some] <;> rfl) | (simp only [← hji28]; first | rfl | (simp [errW_none, errW_some] <;> rfl)) | (simp [*, errW_none, errW_some] <;> rfl), by repeat (first | (with_reducible first | exact HB.out | apply below_alloc | apply pw_below_drewN | apply below_drew1) | exact HB.out)⟩
                                        · rw [if_neg c50] at H
                                          have c50b0 : ((rd t351 x7_1) == 1) = false := beq_eq_false_iff_ne.mpr c50
                                          have c50b1 : ((rd t351 x7_1) != 1) = true := bne_iff_ne.mpr c50
                                          by_cases c53 : t356 = 2
                                          · rw [if_pos c53] at H
                                            have c53b0 : (t356 == 2) = true := beq_iff_eq.mpr c53
                                            have c53b1 : (t356 != 2) = false := bne_eq_false_iff_eq.mpr c53
                                            clear c53
                                            have H' := Aside0.mk H
                                            clear H
                                            have p360 : 0 ≤ ((ji28) : Int) := of_decide_eq_true (by first | (with_reducible assumption) | assumption)
                                            have q360 : (ji28) < (t348.length : Int) := of_decide_eq_true (by first | (with_reducible assumption) | assumption)
                                            obtain ⟨ad360, e360, hx360_0, hx360_1⟩ := at_T33 (Kd.R_reads' HO_5.out).2.2 (ji28) p360 q360
                                            obtain rfl : ad354 = ad360 := (by injection e360)
                                            replace p360 := eq_true p360
                                            replace q360 := eq_true q360
                                            go_wp2_with (first | ((with_reducible refine gate_callee (f := 16) rfl ?_); refine goesL_ (some 73) rfl rfl Try.func16 (by kernel_rfl) rfl #[.string t347, .agg #[.int .i64 ((rd_T33 t348 (ji28)).f0), .int .i64 ((rd_T33 t348 (ji28)).f1)]] rfl (by (try simp only [List.map_toArray, List.map_cons, List.map_nil]); first | done | (simp only [hji28]; rfl) | rfl | (simp only [List.length_drop, List.length_take]; rfl)) ?_; (with_reducible refine (cluster_Base.calls kj19 t347 ((rd_T33 t348 (ji28)).f0) ((rd_T33 t348 (ji28)).f1) t361 _ A31.out).mono ?_); rintro e w54 ⟨rfl, hb⟩; refine ⟨_, rfl, ?_⟩; have n0_ := Aside0.mk (Kd.R_below (by (with_reducible repeat (first | apply Kd.R_alloc | apply Kd.R_drewN | apply Kd.R_drew)); exact HO_5.out) hb); have n1_ := Aside0.mk (Kd.R_below (by (with_reducible repeat (first | apply Kd.R_alloc | apply Kd.R_drewN | apply Kd.R_drew)); exact HO_6.out) hb); have n2_ := Aside0.mk (below_step (by repeat (first | (with_reducible first | exact HB.out | apply below_alloc | apply pw_below_drewN | apply below_drew1) | exact HB.out)) hb); clear HO_5; clear HO_6; clear HB; have HO_5 := n0_; have HO_6 := n1_; have HB := n2_; clear n0_ n1_ n2_; (try clear hb); (try clear hb2); (try clear hk); (try clear hi); have p34 : 0 ≤ (t361 : Int) := of_decide_eq_true (by first | (with_reducible assumption) | assumption); have q34 : t361 < (t347.size : Int) := of_decide_eq_true (by first | (with_reducible assumption) | assumption); have hx34 := bt_at t347 t361; replace p34 := eq_true p34; replace q34 := eq_true q34) | ((with_reducible refine gate_callee (f := 15) rfl ?_); refine goesL_ (some 76) rfl rfl Try.func15 (by kernel_rfl) rfl #[.int .i64 (wrap64 (bt t347 t361))] rfl (by (try simp only [List.map_toArray, List.map_cons, List.map_nil]); first | done | rfl | (simp only [List.length_drop, List.length_take]; rfl)) ?_; (with_reducible refine (chars_Class.calls kj19 (wrap64 (bt t347 t361)) t362 _ A35.out).mono ?_); rintro e w55 ⟨rfl, hb⟩; refine ⟨_, rfl, ?_⟩; have n0_ := Aside0.mk (Kd.R_below (by (with_reducible repeat (first | apply Kd.R_alloc | apply Kd.R_drewN | apply Kd.R_drew)); exact HO_5.out) hb); have n1_ := Aside0.mk (Kd.R_below (by (with_reducible repeat (first | apply Kd.R_alloc | apply Kd.R_drewN | apply Kd.R_drew)); exact HO_6.out) hb); have n2_ := Aside0.mk (below_step (by repeat (first | (with_reducible first | exact HB.out | apply below_alloc | apply pw_below_drewN | apply below_drew1) | exact HB.out)) hb); clear HO_5; clear HO_6; clear HB; have HO_5 := n0_; have HO_6 := n1_; have HB := n2_; clear n0_ n1_ n2_; (try clear hb); (try clear hb2); (try clear hk); (try clear hi); have p364 : 0 ≤ (x7_1 : Int) := of_decide_eq_true (by first | (with_reducible assumption) | assumption); have q364 : x7_1 < (t351.length : Int) := of_decide_eq_true (by first | (with_reducible assumption) | assumption); obtain ⟨ad364, e364, hx364_0⟩ := Kd.at_int (Kd.R_reads' HO_6.out).2.2 x7_1 p364 q364; cases e364; replace p364 := eq_true p364; replace q364 := eq_true q364))
                                            go_roundg kj19
                                            case measure => have := HK1.out; have := HJ19.out; omega
                                            case rel => exact ⟨(ji28), (by first | rfl | (simp; done) | (simp only [← hji28] <;> (first | rfl | simp)) | (simp [*]; done)), H', ⟨by have := HK1.out; have := HJ19.out; omega⟩, ⟨by (with_reducible repeat (first | apply Kd.R_alloc | apply Kd.R_drewN | apply Kd.R_drew)); exact HO_5.out⟩, ⟨by (with_reducible repeat (first | apply Kd.R_alloc | apply Kd.R_drewN | apply Kd.R_drew)); exact HO_6.out⟩, ⟨by repeat (first | (with_reducible first | exact HB.out | apply below_alloc | apply pw_below_drewN | apply below_drew1) | exact HB.out)⟩⟩
                                          · rw [if_neg c53] at H
                                            have c53b0 : (t356 == 2) = false := beq_eq_false_iff_ne.mpr c53
                                            have c53b1 : (t356 != 2) = true := bne_iff_ne.mpr c53
                                            have H' := Aside0.mk H
                                            clear H
                                            have p360 : 0 ≤ ((ji28) : Int) := of_decide_eq_true (by first | (with_reducible assumption) | assumption)
                                            have q360 : (ji28) < (t348.length : Int) := of_decide_eq_true (by first | (with_reducible assumption) | assumption)
                                            obtain ⟨ad360, e360, hx360_0, hx360_1⟩ := at_T33 (Kd.R_reads' HO_5.out).2.2 (ji28) p360 q360
                                            obtain rfl : ad354 = ad360 := (by injection e360)
                                            replace p360 := eq_true p360
                                            replace q360 := eq_true q360
                                            go_wp2_with (first | ((with_reducible refine gate_callee (f := 16) rfl ?_); refine goesL_ (some 73) rfl rfl Try.func16 (by kernel_rfl) rfl #[.string t347, .agg #[.int .i64 ((rd_T33 t348 (ji28)).f0), .int .i64 ((rd_T33 t348 (ji28)).f1)]] rfl (by (try simp only [List.map_toArray, List.map_cons, List.map_nil]); first | done | (simp only [hji28]; rfl) | rfl | (simp only [List.length_drop, List.length_take]; rfl)) ?_; (with_reducible refine (cluster_Base.calls kj19 t347 ((rd_T33 t348 (ji28)).f0) ((rd_T33 t348 (ji28)).f1) t361 _ A31.out).mono ?_); rintro e w56 ⟨rfl, hb⟩; refine ⟨_, rfl, ?_⟩; have n0_ := Aside0.mk (Kd.R_below (by (with_reducible repeat (first | apply Kd.R_alloc | apply Kd.R_drewN | apply Kd.R_drew)); exact HO_5.out) hb); have n1_ := Aside0.mk (Kd.R_below (by (with_reducible repeat (first | apply Kd.R_alloc | apply Kd.R_drewN | apply Kd.R_drew)); exact HO_6.out) hb); have n2_ := Aside0.mk (below_step (by repeat (first | (with_reducible first | exact HB.out | apply below_alloc | apply pw_below_drewN | apply below_drew1) | exact HB.out)) hb); clear HO_5; clear HO_6; clear HB; have HO_5 := n0_; have HO_6 := n1_; have HB := n2_; clear n0_ n1_ n2_; (try clear hb); (try clear hb2); (try clear hk); (try clear hi); have p34 : 0 ≤ (t361 : Int) := of_decide_eq_true (by first | (with_reducible assumption) | assumption); have q34 : t361 < (t347.size : Int) := of_decide_eq_true (by first | (with_reducible assumption) | assumption); have hx34 := bt_at t347 t361; replace p34 := eq_true p34; replace q34 := eq_true q34) | ((with_reducible refine gate_callee (f := 15) rfl ?_); refine goesL_ (some 76) rfl rfl Try.func15 (by kernel_rfl) rfl #[.int .i64 (wrap64 (bt t347 t361))] rfl (by (try simp only [List.map_toArray, List.map_cons, List.map_nil]); first | done | rfl | (simp only [List.length_drop, List.length_take]; rfl)) ?_; (with_reducible refine (chars_Class.calls kj19 (wrap64 (bt t347 t361)) t362 _ A35.out).mono ?_); rintro e w57 ⟨rfl, hb⟩; refine ⟨_, rfl, ?_⟩; have n0_ := Aside0.mk (Kd.R_below (by (with_reducible repeat (first | apply Kd.R_alloc | apply Kd.R_drewN | apply Kd.R_drew)); exact HO_5.out) hb); have n1_ := Aside0.mk (Kd.R_below (by (with_reducible repeat (first | apply Kd.R_alloc | apply Kd.R_drewN | apply Kd.R_drew)); exact HO_6.out) hb); have n2_ := Aside0.mk (below_step (by repeat (first | (with_reducible first | exact HB.out | apply below_alloc | apply pw_below_drewN | apply below_drew1) | exact HB.out)) hb); clear HO_5; clear HO_6; clear HB; have HO_5 := n0_; have HO_6 := n1_; have HB := n2_; clear n0_ n1_ n2_; (try clear hb); (try clear hb2); (try clear hk); (try clear hi); have p364 : 0 ≤ (x7_1 : Int) := of_decide_eq_true (by first | (with_reducible assumption) | assumption); have q364 : x7_1 < (t351.length : Int) := of_decide_eq_true (by first | (with_reducible assumption) | assumption); obtain ⟨ad364, e364, hx364_0⟩ := Kd.at_int (Kd.R_reads' HO_6.out).2.2 x7_1 p364 q364; cases e364; replace p364 := eq_true p364; replace q364 := eq_true q364))
                                            go_roundg kj19
                                            case measure => have := HK1.out; have := HJ19.out; omega
                                            case rel => exact ⟨(ji28), (by first | rfl | (simp; done) | (simp only [← hji28] <;> (first | rfl | simp)) | (simp [*]; done)), H', ⟨by have := HK1.out; have := HJ19.out; omega⟩, ⟨by (with_reducible repeat (first | apply Kd.R_alloc | apply Kd.R_drewN | apply Kd.R_drew)); exact HO_5.out⟩, ⟨by (with_reducible repeat (first | apply Kd.R_alloc | apply Kd.R_drewN | apply Kd.R_drew)); exact HO_6.out⟩, ⟨by repeat (first | (with_reducible first | exact HB.out | apply below_alloc | apply pw_below_drewN | apply below_drew1) | exact HB.out)⟩⟩
                                      · rw [if_neg c49] at H
                                        exact absurd H (by simp)
                                    · rw [if_neg c48] at H
                                      exact absurd H (by simp)
                                  · rw [if_neg c47] at H
                                    have c47b0 : (t362 == 2) = false := beq_eq_false_iff_ne.mpr c47
                                    have c47b1 : (t362 != 2) = true := bne_iff_ne.mpr c47
                                    by_cases c58 : 0 ≤ x7_1
                                    · rw [if_pos c58] at H
                                      have c58b0 : decide (0 ≤ x7_1) = true := decide_eq_true c58
                                      clear c58
                                      by_cases c59 : x7_1 < (t351.length : Int)
                                      · rw [if_pos c59] at H
                                        have c59b0 : decide (x7_1 < (t351.length : Int)) = true := decide_eq_true c59
                                        clear c59
                                        by_cases c60 : (rd t351 x7_1) = 1
                                        · rw [if_pos c60] at H
                                          have c60b0 : ((rd t351 x7_1) == 1) = true := beq_iff_eq.mpr c60
                                          have c60b1 : ((rd t351 x7_1) != 1) = false := bne_eq_false_iff_eq.mpr c60
                                          clear c60
                                          by_cases c61 : t362 = 4
                                          · rw [if_pos c61] at H
                                            have c61b0 : (t362 == 4) = true := beq_iff_eq.mpr c61
                                            have c61b1 : (t362 != 4) = false := bne_eq_false_iff_eq.mpr c61
                                            clear c61
                                            obtain rfl := Option.some.inj H
                                            have p360 : 0 ≤ ((ji28) : Int) := of_decide_eq_true (by first | (with_reducible assumption) | assumption)
                                            have q360 : (ji28) < (t348.length : Int) := of_decide_eq_true (by first | (with_reducible assumption) | assumption)
                                            obtain ⟨ad360, e360, hx360_0, hx360_1⟩ := at_T33 (Kd.R_reads' HO_5.out).2.2 (ji28) p360 q360
                                            obtain rfl : ad354 = ad360 := (by injection e360)
                                            replace p360 := eq_true p360
                                            replace q360 := eq_true q360
                                            go_wp2_with (first | ((with_reducible refine gate_callee (f := 16) rfl ?_); refine goesL_ (some 73) rfl rfl Try.func16 (by kernel_rfl) rfl #[.string t347, .agg #[.int .i64 ((rd_T33 t348 (ji28)).f0), .int .i64 ((rd_T33 t348 (ji28)).f1)]] rfl (by (try simp only [List.map_toArray, List.map_cons, List.map_nil]); first | done | (simp only [hji28]; rfl) | rfl | (simp only [List.length_drop, List.length_take]; rfl)) ?_; (with_reducible refine (cluster_Base.calls kj19 t347 ((rd_T33 t348 (ji28)).f0) ((rd_T33 t348 (ji28)).f1) t361 _ A31.out).mono ?_); rintro e w62 ⟨rfl, hb⟩; refine ⟨_, rfl, ?_⟩; have n0_ := Aside0.mk (Kd.R_below (by (with_reducible repeat (first | apply Kd.R_alloc | apply Kd.R_drewN | apply Kd.R_drew)); exact HO_5.out) hb); have n1_ := Aside0.mk (Kd.R_below (by (with_reducible repeat (first | apply Kd.R_alloc | apply Kd.R_drewN | apply Kd.R_drew)); exact HO_6.out) hb); have n2_ := Aside0.mk (below_step (by repeat (first | (with_reducible first | exact HB.out | apply below_alloc | apply pw_below_drewN | apply below_drew1) | exact HB.out)) hb); clear HO_5; clear HO_6; clear HB; have HO_5 := n0_; have HO_6 := n1_; have HB := n2_; clear n0_ n1_ n2_; (try clear hb); (try clear hb2); (try clear hk); (try clear hi); have p34 : 0 ≤ (t361 : Int) := of_decide_eq_true (by first | (with_reducible assumption) | assumption); have q34 : t361 < (t347.size : Int) := of_decide_eq_true (by first | (with_reducible assumption) | assumption); have hx34 := bt_at t347 t361; replace p34 := eq_true p34; replace q34 := eq_true q34) | ((with_reducible refine gate_callee (f := 15) rfl ?_); refine goesL_ (some 76) rfl rfl Try.func15 (by kernel_rfl) rfl #[.int .i64 (wrap64 (bt t347 t361))] rfl (by (try simp only [List.map_toArray, List.map_cons, List.map_nil]); first | done | rfl | (simp only [List.length_drop, List.length_take]; rfl)) ?_; (with_reducible refine (chars_Class.calls kj19 (wrap64 (bt t347 t361)) t362 _ A35.out).mono ?_); rintro e w63 ⟨rfl, hb⟩; refine ⟨_, rfl, ?_⟩; have n0_ := Aside0.mk (Kd.R_below (by (with_reducible repeat (first | apply Kd.R_alloc | apply Kd.R_drewN | apply Kd.R_drew)); exact HO_5.out) hb); have n1_ := Aside0.mk (Kd.R_below (by (with_reducible repeat (first | apply Kd.R_alloc | apply Kd.R_drewN | apply Kd.R_drew)); exact HO_6.out) hb); have n2_ := Aside0.mk (below_step (by repeat (first | (with_reducible first | exact HB.out | apply below_alloc | apply pw_below_drewN | apply below_drew1) | exact HB.out)) hb); clear HO_5; clear HO_6; clear HB; have HO_5 := n0_; have HO_6 := n1_; have HB := n2_; clear n0_ n1_ n2_; (try clear hb); (try clear hb2); (try clear hk); (try clear hi); have p365 : 0 ≤ (x7_1 : Int) := of_decide_eq_true (by first | (with_reducible assumption) | assumption); have q365 : x7_1 < (t351.length : Int) := of_decide_eq_true (by first | (with_reducible assumption) | assumption); obtain ⟨ad365, e365, hx365_0⟩ := Kd.at_int (Kd.R_reads' HO_6.out).2.2 x7_1 p365 q365; cases e365; replace p365 := eq_true p365; replace q365 := eq_true q365))
                                            go_ret
                                            exact ⟨by first | rfl | (simp [errW_none, errW_some] <;> rfl) | (simp only [← hji28]; first | rfl | (simp [errW_none, errW_some] <;> rfl)) | (simp [*, errW_none, errW_some] <;> rfl), by repeat (first | (with_reducible first | exact HB.out | apply below_alloc | apply pw_below_drewN | apply below_drew1) | exact HB.out)⟩
                                          · rw [if_neg c61] at H
                                            have c61b0 : (t362 == 4) = false := beq_eq_false_iff_ne.mpr c61
                                            have c61b1 : (t362 != 4) = true := bne_iff_ne.mpr c61
                                            by_cases c64 : t356 = 2
                                            · rw [if_pos c64] at H
                                              have c64b0 : (t356 == 2) = true := beq_iff_eq.mpr c64
                                              have c64b1 : (t356 != 2) = false := bne_eq_false_iff_eq.mpr c64
                                              clear c64
                                              have H' := Aside0.mk H
                                              clear H
                                              have p360 : 0 ≤ ((ji28) : Int) := of_decide_eq_true (by first | (with_reducible assumption) | assumption)
                                              have q360 : (ji28) < (t348.length : Int) := of_decide_eq_true (by first | (with_reducible assumption) | assumption)
                                              obtain ⟨ad360, e360, hx360_0, hx360_1⟩ := at_T33 (Kd.R_reads' HO_5.out).2.2 (ji28) p360 q360
                                              obtain rfl : ad354 = ad360 := (by injection e360)
                                              replace p360 := eq_true p360
                                              replace q360 := eq_true q360
                                              go_wp2_with (first | ((with_reducible refine gate_callee (f := 16) rfl ?_); refine goesL_ (some 73) rfl rfl Try.func16 (by kernel_rfl) rfl #[.string t347, .agg #[.int .i64 ((rd_T33 t348 (ji28)).f0), .int .i64 ((rd_T33 t348 (ji28)).f1)]] rfl (by (try simp only [List.map_toArray, List.map_cons, List.map_nil]); first | done | (simp only [hji28]; rfl) | rfl | (simp only [List.length_drop, List.length_take]; rfl)) ?_; (with_reducible refine (cluster_Base.calls kj19 t347 ((rd_T33 t348 (ji28)).f0) ((rd_T33 t348 (ji28)).f1) t361 _ A31.out).mono ?_); rintro e w65 ⟨rfl, hb⟩; refine ⟨_, rfl, ?_⟩; have n0_ := Aside0.mk (Kd.R_below (by (with_reducible repeat (first | apply Kd.R_alloc | apply Kd.R_drewN | apply Kd.R_drew)); exact HO_5.out) hb); have n1_ := Aside0.mk (Kd.R_below (by (with_reducible repeat (first | apply Kd.R_alloc | apply Kd.R_drewN | apply Kd.R_drew)); exact HO_6.out) hb); have n2_ := Aside0.mk (below_step (by repeat (first | (with_reducible first | exact HB.out | apply below_alloc | apply pw_below_drewN | apply below_drew1) | exact HB.out)) hb); clear HO_5; clear HO_6; clear HB; have HO_5 := n0_; have HO_6 := n1_; have HB := n2_; clear n0_ n1_ n2_; (try clear hb); (try clear hb2); (try clear hk); (try clear hi); have p34 : 0 ≤ (t361 : Int) := of_decide_eq_true (by first | (with_reducible assumption) | assumption); have q34 : t361 < (t347.size : Int) := of_decide_eq_true (by first | (with_reducible assumption) | assumption); have hx34 := bt_at t347 t361; replace p34 := eq_true p34; replace q34 := eq_true q34) | ((with_reducible refine gate_callee (f := 15) rfl ?_); refine goesL_ (some 76) rfl rfl Try.func15 (by kernel_rfl) rfl #[.int .i64 (wrap64 (bt t347 t361))] rfl (by (try simp only [List.map_toArray, List.map_cons, List.map_nil]); first | done | rfl | (simp only [List.length_drop, List.length_take]; rfl)) ?_; (with_reducible refine (chars_Class.calls kj19 (wrap64 (bt t347 t361)) t362 _ A35.out).mono ?_); rintro e w66 ⟨rfl, hb⟩; refine ⟨_, rfl, ?_⟩; have n0_ := Aside0.mk (Kd.R_below (by (with_reducible repeat (first | apply Kd.R_alloc | apply Kd.R_drewN | apply Kd.R_drew)); exact HO_5.out) hb); have n1_ := Aside0.mk (Kd.R_below (by (with_reducible repeat (first | apply Kd.R_alloc | apply Kd.R_drewN | apply Kd.R_drew)); exact HO_6.out) hb); have n2_ := Aside0.mk (below_step (by repeat (first | (with_reducible first | exact HB.out | apply below_alloc | apply pw_below_drewN | apply below_drew1) | exact HB.out)) hb); clear HO_5; clear HO_6; clear HB; have HO_5 := n0_; have HO_6 := n1_; have HB := n2_; clear n0_ n1_ n2_; (try clear hb); (try clear hb2); (try clear hk); (try clear hi); have p365 : 0 ≤ (x7_1 : Int) := of_decide_eq_true (by first | (with_reducible assumption) | assumption); have q365 : x7_1 < (t351.length : Int) := of_decide_eq_true (by first | (with_reducible assumption) | assumption); obtain ⟨ad365, e365, hx365_0⟩ := Kd.at_int (Kd.R_reads' HO_6.out).2.2 x7_1 p365 q365; cases e365; replace p365 := eq_true p365; replace q365 := eq_true q365; have p366 : 0 ≤ (x7_1 : Int) := of_decide_eq_true (by first | (with_reducible assumption) | assumption); have q366 : x7_1 < (t351.length : Int) := of_decide_eq_true (by first | (with_reducible assumption) | assumption); obtain ⟨ad366, e366, hx366_0⟩ := Kd.at_int (Kd.R_reads' HO_6.out).2.2 x7_1 p366 q366; obtain rfl : ad365 = ad366 := (by injection e366); replace p366 := eq_true p366; replace q366 := eq_true q366))
                                              go_roundg kj19
                                              case measure => have := HK1.out; have := HJ19.out; omega
                                              case rel => exact ⟨(ji28), (by first | rfl | (simp; done) | (simp only [← hji28] <;> (first | rfl | simp)) | (simp [*]; done)), H', ⟨by have := HK1.out; have := HJ19.out; omega⟩, ⟨by (with_reducible repeat (first | apply Kd.R_alloc | apply Kd.R_drewN | apply Kd.R_drew)); exact HO_5.out⟩, ⟨by (with_reducible repeat (first | apply Kd.R_alloc | apply Kd.R_drewN | apply Kd.R_drew)); exact HO_6.out⟩, ⟨by repeat (first | (with_reducible first | exact HB.out | apply below_alloc | apply pw_below_drewN | apply below_drew1) | exact HB.out)⟩⟩
                                            · rw [if_neg c64] at H
                                              have c64b0 : (t356 == 2) = false := beq_eq_false_iff_ne.mpr c64
                                              have c64b1 : (t356 != 2) = true := bne_iff_ne.mpr c64
                                              have H' := Aside0.mk H
                                              clear H
                                              have p360 : 0 ≤ ((ji28) : Int) := of_decide_eq_true (by first | (with_reducible assumption) | assumption)
                                              have q360 : (ji28) < (t348.length : Int) := of_decide_eq_true (by first | (with_reducible assumption) | assumption)
                                              obtain ⟨ad360, e360, hx360_0, hx360_1⟩ := at_T33 (Kd.R_reads' HO_5.out).2.2 (ji28) p360 q360
                                              obtain rfl : ad354 = ad360 := (by injection e360)
                                              replace p360 := eq_true p360
                                              replace q360 := eq_true q360
                                              go_wp2_with (first | ((with_reducible refine gate_callee (f := 16) rfl ?_); refine goesL_ (some 73) rfl rfl Try.func16 (by kernel_rfl) rfl #[.string t347, .agg #[.int .i64 ((rd_T33 t348 (ji28)).f0), .int .i64 ((rd_T33 t348 (ji28)).f1)]] rfl (by (try simp only [List.map_toArray, List.map_cons, List.map_nil]); first | done | (simp only [hji28]; rfl) | rfl | (simp only [List.length_drop, List.length_take]; rfl)) ?_; (with_reducible refine (cluster_Base.calls kj19 t347 ((rd_T33 t348 (ji28)).f0) ((rd_T33 t348 (ji28)).f1) t361 _ A31.out).mono ?_); rintro e w67 ⟨rfl, hb⟩; refine ⟨_, rfl, ?_⟩; have n0_ := Aside0.mk (Kd.R_below (by (with_reducible repeat (first | apply Kd.R_alloc | apply Kd.R_drewN | apply Kd.R_drew)); exact HO_5.out) hb); have n1_ := Aside0.mk (Kd.R_below (by (with_reducible repeat (first | apply Kd.R_alloc | apply Kd.R_drewN | apply Kd.R_drew)); exact HO_6.out) hb); have n2_ := Aside0.mk (below_step (by repeat (first | (with_reducible first | exact HB.out | apply below_alloc | apply pw_below_drewN | apply below_drew1) | exact HB.out)) hb); clear HO_5; clear HO_6; clear HB; have HO_5 := n0_; have HO_6 := n1_; have HB := n2_; clear n0_ n1_ n2_; (try clear hb); (try clear hb2); (try clear hk); (try clear hi); have p34 : 0 ≤ (t361 : Int) := of_decide_eq_true (by first | (with_reducible assumption) | assumption); have q34 : t361 < (t347.size : Int) := of_decide_eq_true (by first | (with_reducible assumption) | assumption); have hx34 := bt_at t347 t361; replace p34 := eq_true p34; replace q34 := eq_true q34) | ((with_reducible refine gate_callee (f := 15) rfl ?_); refine goesL_ (some 76) rfl rfl Try.func15 (by kernel_rfl) rfl #[.int .i64 (wrap64 (bt t347 t361))] rfl (by (try simp only [List.map_toArray, List.map_cons, List.map_nil]); first | done | rfl | (simp only [List.length_drop, List.length_take]; rfl)) ?_; (with_reducible refine (chars_Class.calls kj19 (wrap64 (bt t347 t361)) t362 _ A35.out).mono ?_); rintro e w68 ⟨rfl, hb⟩; refine ⟨_, rfl, ?_⟩; have n0_ := Aside0.mk (Kd.R_below (by (with_reducible repeat (first | apply Kd.R_alloc | apply Kd.R_drewN | apply Kd.R_drew)); exact HO_5.out) hb); have n1_ := Aside0.mk (Kd.R_below (by (with_reducible repeat (first | apply Kd.R_alloc | apply Kd.R_drewN | apply Kd.R_drew)); exact HO_6.out) hb); have n2_ := Aside0.mk (below_step (by repeat (first | (with_reducible first | exact HB.out | apply below_alloc | apply pw_below_drewN | apply below_drew1) | exact HB.out)) hb); clear HO_5; clear HO_6; clear HB; have HO_5 := n0_; have HO_6 := n1_; have HB := n2_; clear n0_ n1_ n2_; (try clear hb); (try clear hb2); (try clear hk); (try clear hi); have p365 : 0 ≤ (x7_1 : Int) := of_decide_eq_true (by first | (with_reducible assumption) | assumption); have q365 : x7_1 < (t351.length : Int) := of_decide_eq_true (by first | (with_reducible assumption) | assumption); obtain ⟨ad365, e365, hx365_0⟩ := Kd.at_int (Kd.R_reads' HO_6.out).2.2 x7_1 p365 q365; cases e365; replace p365 := eq_true p365; replace q365 := eq_true q365))
                                              go_roundg kj19
                                              case measure => have := HK1.out; have := HJ19.out; omega
                                              case rel => exact ⟨(ji28), (by first | rfl | (simp; done) | (simp only [← hji28] <;> (first | rfl | simp)) | (simp [*]; done)), H', ⟨by have := HK1.out; have := HJ19.out; omega⟩, ⟨by (with_reducible repeat (first | apply Kd.R_alloc | apply Kd.R_drewN | apply Kd.R_drew)); exact HO_5.out⟩, ⟨by (with_reducible repeat (first | apply Kd.R_alloc | apply Kd.R_drewN | apply Kd.R_drew)); exact HO_6.out⟩, ⟨by repeat (first | (with_reducible first | exact HB.out | apply below_alloc | apply pw_below_drewN | apply below_drew1) | exact HB.out)⟩⟩
                                        · rw [if_neg c60] at H
                                          have c60b0 : ((rd t351 x7_1) == 1) = false := beq_eq_false_iff_ne.mpr c60
                                          have c60b1 : ((rd t351 x7_1) != 1) = true := bne_iff_ne.mpr c60
                                          by_cases c69 : t356 = 2
                                          · rw [if_pos c69] at H
                                            have c69b0 : (t356 == 2) = true := beq_iff_eq.mpr c69
                                            have c69b1 : (t356 != 2) = false := bne_eq_false_iff_eq.mpr c69
                                            clear c69
                                            by_cases c70 : t362 = 4
                                            · rw [if_pos c70] at H
                                              have c70b0 : (t362 == 4) = true := beq_iff_eq.mpr c70
                                              have c70b1 : (t362 != 4) = false := bne_eq_false_iff_eq.mpr c70
                                              clear c70
                                              have H' := Aside0.mk H
                                              clear H
                                              have p360 : 0 ≤ ((ji28) : Int) := of_decide_eq_true (by first | (with_reducible assumption) | assumption)
                                              have q360 : (ji28) < (t348.length : Int) := of_decide_eq_true (by first | (with_reducible assumption) | assumption)
                                              obtain ⟨ad360, e360, hx360_0, hx360_1⟩ := at_T33 (Kd.R_reads' HO_5.out).2.2 (ji28) p360 q360
                                              obtain rfl : ad354 = ad360 := (by injection e360)
                                              replace p360 := eq_true p360
                                              replace q360 := eq_true q360
                                              go_wp2_with (first | ((with_reducible refine gate_callee (f := 16) rfl ?_); refine goesL_ (some 73) rfl rfl Try.func16 (by kernel_rfl) rfl #[.string t347, .agg #[.int .i64 ((rd_T33 t348 (ji28)).f0), .int .i64 ((rd_T33 t348 (ji28)).f1)]] rfl (by (try simp only [List.map_toArray, List.map_cons, List.map_nil]); first | done | (simp only [hji28]; rfl) | rfl | (simp only [List.length_drop, List.length_take]; rfl)) ?_; (with_reducible refine (cluster_Base.calls kj19 t347 ((rd_T33 t348 (ji28)).f0) ((rd_T33 t348 (ji28)).f1) t361 _ A31.out).mono ?_); rintro e w71 ⟨rfl, hb⟩; refine ⟨_, rfl, ?_⟩; have n0_ := Aside0.mk (Kd.R_below (by (with_reducible repeat (first | apply Kd.R_alloc | apply Kd.R_drewN | apply Kd.R_drew)); exact HO_5.out) hb); have n1_ := Aside0.mk (Kd.R_below (by (with_reducible repeat (first | apply Kd.R_alloc | apply Kd.R_drewN | apply Kd.R_drew)); exact HO_6.out) hb); have n2_ := Aside0.mk (below_step (by repeat (first | (with_reducible first | exact HB.out | apply below_alloc | apply pw_below_drewN | apply below_drew1) | exact HB.out)) hb); clear HO_5; clear HO_6; clear HB; have HO_5 := n0_; have HO_6 := n1_; have HB := n2_; clear n0_ n1_ n2_; (try clear hb); (try clear hb2); (try clear hk); (try clear hi); have p34 : 0 ≤ (t361 : Int) := of_decide_eq_true (by first | (with_reducible assumption) | assumption); have q34 : t361 < (t347.size : Int) := of_decide_eq_true (by first | (with_reducible assumption) | assumption); have hx34 := bt_at t347 t361; replace p34 := eq_true p34; replace q34 := eq_true q34) | ((with_reducible refine gate_callee (f := 15) rfl ?_); refine goesL_ (some 76) rfl rfl Try.func15 (by kernel_rfl) rfl #[.int .i64 (wrap64 (bt t347 t361))] rfl (by (try simp only [List.map_toArray, List.map_cons, List.map_nil]); first | done | rfl | (simp only [List.length_drop, List.length_take]; rfl)) ?_; (with_reducible refine (chars_Class.calls kj19 (wrap64 (bt t347 t361)) t362 _ A35.out).mono ?_); rintro e w72 ⟨rfl, hb⟩; refine ⟨_, rfl, ?_⟩; have n0_ := Aside0.mk (Kd.R_below (by (with_reducible repeat (first | apply Kd.R_alloc | apply Kd.R_drewN | apply Kd.R_drew)); exact HO_5.out) hb); have n1_ := Aside0.mk (Kd.R_below (by (with_reducible repeat (first | apply Kd.R_alloc | apply Kd.R_drewN | apply Kd.R_drew)); exact HO_6.out) hb); have n2_ := Aside0.mk (below_step (by repeat (first | (with_reducible first | exact HB.out | apply below_alloc | apply pw_below_drewN | apply below_drew1) | exact HB.out)) hb); clear HO_5; clear HO_6; clear HB; have HO_5 := n0_; have HO_6 := n1_; have HB := n2_; clear n0_ n1_ n2_; (try clear hb); (try clear hb2); (try clear hk); (try clear hi); have p365 : 0 ≤ (x7_1 : Int) := of_decide_eq_true (by first | (with_reducible assumption) | assumption); have q365 : x7_1 < (t351.length : Int) := of_decide_eq_true (by first | (with_reducible assumption) | assumption); obtain ⟨ad365, e365, hx365_0⟩ := Kd.at_int (Kd.R_reads' HO_6.out).2.2 x7_1 p365 q365; cases e365; replace p365 := eq_true p365; replace q365 := eq_true q365))
                                              go_roundg kj19
                                              case measure => have := HK1.out; have := HJ19.out; omega
                                              case rel => exact ⟨(ji28), (by first | rfl | (simp; done) | (simp only [← hji28] <;> (first | rfl | simp)) | (simp [*]; done)), H', ⟨by have := HK1.out; have := HJ19.out; omega⟩, ⟨by (with_reducible repeat (first | apply Kd.R_alloc | apply Kd.R_drewN | apply Kd.R_drew)); exact HO_5.out⟩, ⟨by (with_reducible repeat (first | apply Kd.R_alloc | apply Kd.R_drewN | apply Kd.R_drew)); exact HO_6.out⟩, ⟨by repeat (first | (with_reducible first | exact HB.out | apply below_alloc | apply pw_below_drewN | apply below_drew1) | exact HB.out)⟩⟩
                                            · rw [if_neg c70] at H
                                              have c70b0 : (t362 == 4) = false := beq_eq_false_iff_ne.mpr c70
                                              have c70b1 : (t362 != 4) = true := bne_iff_ne.mpr c70
                                              obtain rfl := Option.some.inj H
                                              have p360 : 0 ≤ ((ji28) : Int) := of_decide_eq_true (by first | (with_reducible assumption) | assumption)
                                              have q360 : (ji28) < (t348.length : Int) := of_decide_eq_true (by first | (with_reducible assumption) | assumption)
                                              obtain ⟨ad360, e360, hx360_0, hx360_1⟩ := at_T33 (Kd.R_reads' HO_5.out).2.2 (ji28) p360 q360
                                              obtain rfl : ad354 = ad360 := (by injection e360)
                                              replace p360 := eq_true p360
                                              replace q360 := eq_true q360
                                              go_wp2_with (first | ((with_reducible refine gate_callee (f := 16) rfl ?_); refine goesL_ (some 73) rfl rfl Try.func16 (by kernel_rfl) rfl #[.string t347, .agg #[.int .i64 ((rd_T33 t348 (ji28)).f0), .int .i64 ((rd_T33 t348 (ji28)).f1)]] rfl (by (try simp only [List.map_toArray, List.map_cons, List.map_nil]); first | done | (simp only [hji28]; rfl) | rfl | (simp only [List.length_drop, List.length_take]; rfl)) ?_; (with_reducible refine (cluster_Base.calls kj19 t347 ((rd_T33 t348 (ji28)).f0) ((rd_T33 t348 (ji28)).f1) t361 _ A31.out).mono ?_); rintro e w73 ⟨rfl, hb⟩; refine ⟨_, rfl, ?_⟩; have n0_ := Aside0.mk (Kd.R_below (by (with_reducible repeat (first | apply Kd.R_alloc | apply Kd.R_drewN | apply Kd.R_drew)); exact HO_5.out) hb); have n1_ := Aside0.mk (Kd.R_below (by (with_reducible repeat (first | apply Kd.R_alloc | apply Kd.R_drewN | apply Kd.R_drew)); exact HO_6.out) hb); have n2_ := Aside0.mk (below_step (by repeat (first | (with_reducible first | exact HB.out | apply below_alloc | apply pw_below_drewN | apply below_drew1) | exact HB.out)) hb); clear HO_5; clear HO_6; clear HB; have HO_5 := n0_; have HO_6 := n1_; have HB := n2_; clear n0_ n1_ n2_; (try clear hb); (try clear hb2); (try clear hk); (try clear hi); have p34 : 0 ≤ (t361 : Int) := of_decide_eq_true (by first | (with_reducible assumption) | assumption); have q34 : t361 < (t347.size : Int) := of_decide_eq_true (by first | (with_reducible assumption) | assumption); have hx34 := bt_at t347 t361; replace p34 := eq_true p34; replace q34 := eq_true q34) | ((with_reducible refine gate_callee (f := 15) rfl ?_); refine goesL_ (some 76) rfl rfl Try.func15 (by kernel_rfl) rfl #[.int .i64 (wrap64 (bt t347 t361))] rfl (by (try simp only [List.map_toArray, List.map_cons, List.map_nil]); first | done | rfl | (simp only [List.length_drop, List.length_take]; rfl)) ?_; (with_reducible refine (chars_Class.calls kj19 (wrap64 (bt t347 t361)) t362 _ A35.out).mono ?_); rintro e w74 ⟨rfl, hb⟩; refine ⟨_, rfl, ?_⟩; have n0_ := Aside0.mk (Kd.R_below (by (with_reducible repeat (first | apply Kd.R_alloc | apply Kd.R_drewN | apply Kd.R_drew)); exact HO_5.out) hb); have n1_ := Aside0.mk (Kd.R_below (by (with_reducible repeat (first | apply Kd.R_alloc | apply Kd.R_drewN | apply Kd.R_drew)); exact HO_6.out) hb); have n2_ := Aside0.mk (below_step (by repeat (first | (with_reducible first | exact HB.out | apply below_alloc | apply pw_below_drewN | apply below_drew1) | exact HB.out)) hb); clear HO_5; clear HO_6; clear HB; have HO_5 := n0_; have HO_6 := n1_; have HB := n2_; clear n0_ n1_ n2_; (try clear hb); (try clear hb2); (try clear hk); (try clear hi); have p365 : 0 ≤ (x7_1 : Int) := of_decide_eq_true (by first | (with_reducible assumption) | assumption); have q365 : x7_1 < (t351.length : Int) := of_decide_eq_true (by first | (with_reducible assumption) | assumption); obtain ⟨ad365, e365, hx365_0⟩ := Kd.at_int (Kd.R_reads' HO_6.out).2.2 x7_1 p365 q365; cases e365; replace p365 := eq_true p365; replace q365 := eq_true q365; have p367 : 0 ≤ (x7_1 : Int) := of_decide_eq_true (by first | (with_reducible assumption) | assumption); have q367 : x7_1 < (t351.length : Int) := of_decide_eq_true (by first | (with_reducible assumption) | assumption); obtain ⟨ad367, e367, hx367_0⟩ := Kd.at_int (Kd.R_reads' HO_6.out).2.2 x7_1 p367 q367; obtain rfl : ad365 = ad367 := (by injection e367); replace p367 := eq_true p367; replace q367 := eq_true q367))
                                              go_ret
                                              exact ⟨by first | rfl | (simp [errW_none, errW_some] <;> rfl) | (simp only [← hji28]; first | rfl | (simp [errW_none, errW_some] <;> rfl)) | (simp [*, errW_none, errW_some] <;> rfl), by repeat (first | (with_reducible first | exact HB.out | apply below_alloc | apply pw_below_drewN | apply below_drew1) | exact HB.out)⟩
                                          · rw [if_neg c69] at H
                                            have c69b0 : (t356 == 2) = false := beq_eq_false_iff_ne.mpr c69
                                            have c69b1 : (t356 != 2) = true := bne_iff_ne.mpr c69
                                            have H' := Aside0.mk H
                                            clear H
                                            have p360 : 0 ≤ ((ji28) : Int) := of_decide_eq_true (by first | (with_reducible assumption) | assumption)
                                            have q360 : (ji28) < (t348.length : Int) := of_decide_eq_true (by first | (with_reducible assumption) | assumption)
                                            obtain ⟨ad360, e360, hx360_0, hx360_1⟩ := at_T33 (Kd.R_reads' HO_5.out).2.2 (ji28) p360 q360
                                            obtain rfl : ad354 = ad360 := (by injection e360)
                                            replace p360 := eq_true p360
                                            replace q360 := eq_true q360
                                            go_wp2_with (first | ((with_reducible refine gate_callee (f := 16) rfl ?_); refine goesL_ (some 73) rfl rfl Try.func16 (by kernel_rfl) rfl #[.string t347, .agg #[.int .i64 ((rd_T33 t348 (ji28)).f0), .int .i64 ((rd_T33 t348 (ji28)).f1)]] rfl (by (try simp only [List.map_toArray, List.map_cons, List.map_nil]); first | done | (simp only [hji28]; rfl) | rfl | (simp only [List.length_drop, List.length_take]; rfl)) ?_; (with_reducible refine (cluster_Base.calls kj19 t347 ((rd_T33 t348 (ji28)).f0) ((rd_T33 t348 (ji28)).f1) t361 _ A31.out).mono ?_); rintro e w75 ⟨rfl, hb⟩; refine ⟨_, rfl, ?_⟩; have n0_ := Aside0.mk (Kd.R_below (by (with_reducible repeat (first | apply Kd.R_alloc | apply Kd.R_drewN | apply Kd.R_drew)); exact HO_5.out) hb); have n1_ := Aside0.mk (Kd.R_below (by (with_reducible repeat (first | apply Kd.R_alloc | apply Kd.R_drewN | apply Kd.R_drew)); exact HO_6.out) hb); have n2_ := Aside0.mk (below_step (by repeat (first | (with_reducible first | exact HB.out | apply below_alloc | apply pw_below_drewN | apply below_drew1) | exact HB.out)) hb); clear HO_5; clear HO_6; clear HB; have HO_5 := n0_; have HO_6 := n1_; have HB := n2_; clear n0_ n1_ n2_; (try clear hb); (try clear hb2); (try clear hk); (try clear hi); have p34 : 0 ≤ (t361 : Int) := of_decide_eq_true (by first | (with_reducible assumption) | assumption); have q34 : t361 < (t347.size : Int) := of_decide_eq_true (by first | (with_reducible assumption) | assumption); have hx34 := bt_at t347 t361; replace p34 := eq_true p34; replace q34 := eq_true q34) | ((with_reducible refine gate_callee (f := 15) rfl ?_); refine goesL_ (some 76) rfl rfl Try.func15 (by kernel_rfl) rfl #[.int .i64 (wrap64 (bt t347 t361))] rfl (by (try simp only [List.map_toArray, List.map_cons, List.map_nil]); first | done | rfl | (simp only [List.length_drop, List.length_take]; rfl)) ?_; (with_reducible refine (chars_Class.calls kj19 (wrap64 (bt t347 t361)) t362 _ A35.out).mono ?_); rintro e w76 ⟨rfl, hb⟩; refine ⟨_, rfl, ?_⟩; have n0_ := Aside0.mk (Kd.R_below (by (with_reducible repeat (first | apply Kd.R_alloc | apply Kd.R_drewN | apply Kd.R_drew)); exact HO_5.out) hb); have n1_ := Aside0.mk (Kd.R_below (by (with_reducible repeat (first | apply Kd.R_alloc | apply Kd.R_drewN | apply Kd.R_drew)); exact HO_6.out) hb); have n2_ := Aside0.mk (below_step (by repeat (first | (with_reducible first | exact HB.out | apply below_alloc | apply pw_below_drewN | apply below_drew1) | exact HB.out)) hb); clear HO_5; clear HO_6; clear HB; have HO_5 := n0_; have HO_6 := n1_; have HB := n2_; clear n0_ n1_ n2_; (try clear hb); (try clear hb2); (try clear hk); (try clear hi); have p365 : 0 ≤ (x7_1 : Int) := of_decide_eq_true (by first | (with_reducible assumption) | assumption); have q365 : x7_1 < (t351.length : Int) := of_decide_eq_true (by first | (with_reducible assumption) | assumption); obtain ⟨ad365, e365, hx365_0⟩ := Kd.at_int (Kd.R_reads' HO_6.out).2.2 x7_1 p365 q365; cases e365; replace p365 := eq_true p365; replace q365 := eq_true q365))
                                            go_roundg kj19
                                            case measure => have := HK1.out; have := HJ19.out; omega
                                            case rel => exact ⟨(ji28), (by first | rfl | (simp; done) | (simp only [← hji28] <;> (first | rfl | simp)) | (simp [*]; done)), H', ⟨by have := HK1.out; have := HJ19.out; omega⟩, ⟨by (with_reducible repeat (first | apply Kd.R_alloc | apply Kd.R_drewN | apply Kd.R_drew)); exact HO_5.out⟩, ⟨by (with_reducible repeat (first | apply Kd.R_alloc | apply Kd.R_drewN | apply Kd.R_drew)); exact HO_6.out⟩, ⟨by repeat (first | (with_reducible first | exact HB.out | apply below_alloc | apply pw_below_drewN | apply below_drew1) | exact HB.out)⟩⟩
                                      · rw [if_neg c59] at H
                                        exact absurd H (by simp)
                                    · rw [if_neg c58] at H
                                      exact absurd H (by simp)
                              · rw [if_neg c33] at H
                                exact absurd H (by simp)
                            · rw [if_neg c32] at H
                              exact absurd H (by simp)
                          · rw [if_neg c30] at H
                            exact absurd H (by simp)
                        · rw [if_neg c29] at H
                          exact absurd H (by simp)
              · rw [if_neg c17] at H
                exact absurd H (by simp)
            · rw [if_neg c16] at H
              exact absurd H (by simp)
          · rw [if_neg c14] at H
            exact absurd H (by simp)
        · rw [if_neg c13] at H
          have c13b0 : decide (x7_1 < (t348.length : Int)) = false := decide_eq_false c13
          clear c13
          obtain rfl := Option.some.inj H
          go_wp2
          go_ret
          exact ⟨by first | rfl | (simp [errW_none, errW_some] <;> rfl) | (simp [*, errW_none, errW_some] <;> rfl), by repeat (first | (with_reducible first | exact HB.out | apply below_alloc | apply pw_below_drewN | apply below_drew1) | exact HB.out)⟩
  · rw [if_neg c6] at H
    have c6b0 : ((t351.length : Int) == (t348.length : Int)) = false := beq_eq_false_iff_ne.mpr c6
    have c6b1 : ((t351.length : Int) != (t348.length : Int)) = true := bne_iff_ne.mpr c6
    have c6b2 : (t351.length == t348.length) = false := by first | simpa using c6 | (simp at c6 ⊢; omega)
    obtain rfl := Option.some.inj H
    go_enter Try.func4, Try.ntmps4
    go_wp2_with (first | ((with_reducible refine gate_callee (f := 9) rfl ?_); refine goesL_ (some 11) rfl rfl Try.func9 (by kernel_rfl) rfl #[] rfl (by (try simp only [List.map_toArray, List.map_cons, List.map_nil]); first | done | rfl | (simp only [List.length_drop, List.length_take]; rfl)) ?_; (with_reducible refine (abugidalaw08_sanity.calls k  t346 _ A2.out).mono ?_); rintro e w77 ⟨rfl, hb⟩; refine ⟨_, rfl, ?_⟩; have n0_ := Aside0.mk (below_step (by repeat (first | (with_reducible first | exact HB.out | apply below_alloc | apply pw_below_drewN | apply below_drew1) | exact HB.out)) hb); clear HB; have HB := n0_; clear n0_; (try clear hb); (try clear hb2); (try clear hk); (try clear hi)) | ((with_reducible refine gate_callee (f := 10) rfl ?_); refine goesL_ (some 13) rfl rfl Try.func10 (by kernel_rfl) rfl #[.slice A0 l0.length c0, .int .i64 60] rfl (by (try simp only [List.map_toArray, List.map_cons, List.map_nil]); first | done | rfl | (simp only [List.length_drop, List.length_take]; rfl)) ?_; (with_reducible refine (abugidaref05_Text.calls k _ _ l0 60 t347 _ ?side1 ?side2 A3.out).mono ?_); (case side1 => repeat (first | exact (Kd.C_below HR0.out HB.out) | (with_reducible refine Kd.C_alloc ?_ _) | (with_reducible refine Kd.C_drewN ?_ _) | (with_reducible refine Kd.C_drew ?_))); (case side2 => exact HC0.out); rintro e w78 ⟨rfl, hb⟩; refine ⟨_, rfl, ?_⟩; have n0_ := Aside0.mk (below_step (by repeat (first | (with_reducible first | exact HB.out | apply below_alloc | apply pw_below_drewN | apply below_drew1) | exact HB.out)) hb); clear HB; have HB := n0_; clear n0_; (try clear hb); (try clear hb2); (try clear hk); (try clear hi)) | ((with_reducible refine gate_callee (f := 14) rfl ?_); refine goesL_ (some 15) rfl rfl Try.func14 (by kernel_rfl) rfl #[.string t347] rfl (by (try simp only [List.map_toArray, List.map_cons, List.map_nil]); first | done | rfl | (simp only [List.length_drop, List.length_take]; rfl)) ?_; (with_reducible refine (cluster_Split.calls t347 t348 _ A4.out).mono ?_); rintro e w79 ⟨v349, rfl, ho0, hb⟩; refine ⟨_, rfl, ?_⟩; have n0_ := Aside0.mk (Kd.R_lower ho0 (below_size (by repeat (first | (with_reducible first | exact HB.out | apply below_alloc | apply pw_below_drewN | apply below_drew1) | exact HB.out)))); have n1_ := Aside0.mk (below_step (by repeat (first | (with_reducible first | exact HB.out | apply below_alloc | apply pw_below_drewN | apply below_drew1) | exact HB.out)) hb); clear HB; have HO350 := n0_; have HB := n1_; clear n0_ n1_; (try clear hb); (try clear hb2); (try clear hk); (try clear hi); (try clear ho0)) | ((with_reducible refine gate_callee (f := 12) rfl ?_); refine goesL_ (some 17) rfl rfl Try.func12 (by kernel_rfl) rfl #[.string t347] rfl (by (try simp only [List.map_toArray, List.map_cons, List.map_nil]); first | done | rfl | (simp only [List.length_drop, List.length_take]; rfl)) ?_; (with_reducible refine (breaks_May.calls k t347 t351 _ A5.out).mono ?_); rintro e w80 ⟨v352, rfl, ho0, hb⟩; refine ⟨_, rfl, ?_⟩; have n0_ := Aside0.mk (Kd.R_below (by (with_reducible repeat (first | apply Kd.R_alloc | apply Kd.R_drewN | apply Kd.R_drew)); exact HO350.out) hb); have n1_ := Aside0.mk (Kd.R_lower ho0 (below_size (by repeat (first | (with_reducible first | exact HB.out | apply below_alloc | apply pw_below_drewN | apply below_drew1) | exact HB.out)))); have n2_ := Aside0.mk (below_step (by repeat (first | (with_reducible first | exact HB.out | apply below_alloc | apply pw_below_drewN | apply below_drew1) | exact HB.out)) hb); clear HO350; clear HB; have HO350 := n0_; have HO353 := n1_; have HB := n2_; clear n0_ n1_ n2_; (try clear hb); (try clear hb2); (try clear hk); (try clear hi); (try clear ho0); obtain ⟨Ao81, co81, eo81⟩ := Kd.R_slice HO353.out; subst eo81; obtain ⟨Ao82, co82, eo82⟩ := Kd.R_slice HO350.out; subst eo82))
    go_ret
    exact ⟨by first | rfl | (simp [errW_none, errW_some] <;> rfl) | (simp [*, errW_none, errW_some] <;> rfl), by repeat (first | (with_reducible first | exact HB.out | apply below_alloc | apply pw_below_drewN | apply below_drew1) | exact HB.out)⟩

/-- THE ONE PURE STATEMENT of abugidalaw08_BreaksHeads: yours. -/
def abugidalaw08_BreaksHeads.Pure : Prop := ∀ (l0 : List Int), l0.length ≤ maxLen → l0.length * 8 ≤ 140737488351232 → (∀ x ∈ l0, (Lit.int .i64 x).wf = true) → ∃ k, abugidalaw08_BreaksHeads.f k l0 = some true
theorem abugidalaw08_BreaksHeads.walk (P : abugidalaw08_BreaksHeads.Pure) (a0 : Option Addr) (len0 cap0 : Nat) (z0 : List Int) (w : World) (w0 : (a0 = none ∧ len0 = 0 ∧ cap0 = 0 ∧ z0 = []) ∨ ∃ x, a0 = some x ∧ len0 ≤ cap0 ∧ cap0 ≤ maxLen ∧ z0.length = cap0 ∧ (∀ i, i < z0.length → w.cell? (x.add i) = some (.int .i64 (z0.getD i 0))) ∧ ∀ n ∈ z0, (Lit.int .i64 n).wf = true) (y0 : len0 * 8 ≤ 140737488351232) :
    Calls Try.prog 4 #[.slice a0 len0 cap0] w fun e w' => e = .returned (.bool true) ∧ Below w.heap.size w w' := by
  obtain ⟨l0, rfl, hr0, hm0, hw0, hc0⟩ := ReadsInt.ofRowC w0
  obtain ⟨k, h⟩ := P l0 hm0 y0 hw0
  refine (abugidalaw08_BreaksHeads.calls k _ _ l0 true w (Kd.C_of_reads (d := (0 : Int)) (h1 := fun _ => rfl) hr0) hc0 h).mono ?_
  rintro e w' ⟨rfl, hd⟩
  exact ⟨rfl, hd⟩

end Go.Proofs.Ythllgpjjjegenaa.Q

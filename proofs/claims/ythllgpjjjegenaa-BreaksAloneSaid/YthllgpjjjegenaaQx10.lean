-- Written by wip/tools/myprint.py, a program of this session that drives the kit's print.py; not a text of print.sh.
import Derived.Test.YthllgpjjjegenaaQx0
import Derived.Test.YthllgpjjjegenaaQx8
import Derived.Test.YthllgpjjjegenaaQx9
namespace Go.Proofs.Ythllgpjjjegenaa.Q
open Go.RowKit Go.Proofs.YthllgpjjjegenaaW.PrintWords Go.Proofs.YthllgpjjjegenaaW.PrintLast Go.Proofs.YthllgpjjjegenaaW.PrintMore
attribute [local go_sem] max2_int min2_int max_two min_two max_three min_three max_four min_four   -- for this text's walks alone
set_option linter.unusedVariables false
set_option linter.unusedSimpArgs false

/-! ### abugidaref08_may: function 29 -/
mutual
def abugidaref08_may.j0 : Nat → List Int → Int → Int → Int → Bool → Option (Int)
  | 0, _, _, _, _, _ => none
  | k + 1, x0, x2, x7, x8, x42 => if x42 = true then (some 0) else (if x7 = 2 then (abugidaref08_may.j1 k x0 x2 x8 true) else (abugidaref08_may.j1 k x0 x2 x8 (x8 == 14)))
def abugidaref08_may.j1 : Nat → List Int → Int → Int → Bool → Option (Int)
  | 0, _, _, _, _ => none
  | k + 1, x0, x2, x8, x48 => if x48 = true then (some 1) else (if x8 = 13 then (some 0) else (if 0 ≤ x2 then (if x2 < (x0.length : Int) then (if (rd x0 x2) = 45 then (some 1) else ((abugidaref05_Script.f (rd x0 x2)).bind fun t311 => (if t311 = 3 then (if 0 ≤ (wrap64 (x2 + 1)) then (if (wrap64 (x2 + 1)) < (x0.length : Int) then ((abugidaref05_Script.f (rd x0 (wrap64 (x2 + 1)))).bind fun t313 => (if t313 = 3 then (some 1) else (some 0))) else (none)) else (none)) else (some 0)))) else (none)) else (none)))
end
def abugidaref08_may.f (k : Nat) (l0 : List Int) (l1 : List Int) (a2 : Int) : Option (Int) := if 0 ≤ a2 then (if a2 < (l0.length : Int) then ((abugidaref05_Class.f k (rd l0 a2)).bind fun t304 => (if a2 < (l1.length : Int) then ((abugidaref05_Class.f k (rd l1 a2)).bind fun t306 => (if t304 = 1 then (some 2) else (if a2 = (wrap64 ((l0.length : Int) - 1)) then (some 0) else (if 0 ≤ (wrap64 (a2 + 1)) then (if (wrap64 (a2 + 1)) < (l0.length : Int) then ((abugidaref05_Class.f k (rd l0 (wrap64 (a2 + 1)))).bind fun t308 => (if t308 = 1 then (abugidaref08_may.j0 k l0 a2 t304 t306 true) else (if t308 = 2 then (abugidaref08_may.j0 k l0 a2 t304 t306 true) else (abugidaref08_may.j0 k l0 a2 t304 t306 (t308 == 4))))) else (none)) else (none))))) else (none))) else (none)) else (none)
theorem abugidaref08_may.mono_l : ∀ k, (∀ y0 y1 y2 y3 y4, LeO (abugidaref08_may.j0 k y0 y1 y2 y3 y4) (abugidaref08_may.j0 (k + 1) y0 y1 y2 y3 y4)) ∧ (∀ y0 y1 y2 y3, LeO (abugidaref08_may.j1 k y0 y1 y2 y3) (abugidaref08_may.j1 (k + 1) y0 y1 y2 y3))
  | 0 => ⟨fun _ _ _ _ _ r h => by simp [abugidaref08_may.j0] at h, fun _ _ _ _ r h => by simp [abugidaref08_may.j1] at h⟩
  | k + 1 => by
    obtain ⟨ih0, ih1⟩ := abugidaref08_may.mono_l k
    refine ⟨?_, ?_⟩
    · intro y0 y1 y2 y3 y4
      unfold abugidaref08_may.j0
      repeat' first
      | (with_reducible exact ih0 _ _ _ _ _)
      | (with_reducible exact ih1 _ _ _ _)
      | (with_reducible exact abugidaref05_Class.mono _ _)
      | (with_reducible exact LeO.refl _)
      | (with_reducible exact LeO.none _)
      | (with_reducible refine LeO.ite ?_ ?_)
      | (with_reducible refine LeO.bind ?_ (fun _ => ?_))
      | exact ih0 _ _ _ _ _
      | exact ih1 _ _ _ _
      | exact abugidaref05_Class.mono _ _
      | exact LeO.none _
      | refine LeO.ite ?_ ?_
      | refine LeO.bind ?_ (fun _ => ?_)
    · intro y0 y1 y2 y3
      unfold abugidaref08_may.j1
      repeat' first
      | (with_reducible exact ih0 _ _ _ _ _)
      | (with_reducible exact ih1 _ _ _ _)
      | (with_reducible exact abugidaref05_Class.mono _ _)
      | (with_reducible exact LeO.refl _)
      | (with_reducible exact LeO.none _)
      | (with_reducible refine LeO.ite ?_ ?_)
      | (with_reducible refine LeO.bind ?_ (fun _ => ?_))
      | exact ih0 _ _ _ _ _
      | exact ih1 _ _ _ _
      | exact abugidaref05_Class.mono _ _
      | exact LeO.none _
      | refine LeO.ite ?_ ?_
      | refine LeO.bind ?_ (fun _ => ?_)
theorem abugidaref08_may.mono : ∀ a0 a1 a2 k, LeO (abugidaref08_may.f k a0 a1 a2) (abugidaref08_may.f (k + 1) a0 a1 a2) := by
  intro a0 a1 a2 k
  obtain ⟨ih0, ih1⟩ := abugidaref08_may.mono_l k
  unfold abugidaref08_may.f
  repeat' first
      | (with_reducible exact ih0 _ _ _ _ _)
      | (with_reducible exact ih1 _ _ _ _)
      | (with_reducible exact abugidaref05_Class.mono _ _)
      | (with_reducible exact LeO.refl _)
      | (with_reducible exact LeO.none _)
      | (with_reducible refine LeO.ite ?_ ?_)
      | (with_reducible refine LeO.bind ?_ (fun _ => ?_))
      | exact ih0 _ _ _ _ _
      | exact ih1 _ _ _ _
      | exact abugidaref05_Class.mono _ _
      | exact LeO.none _
      | refine LeO.ite ?_ ?_
      | refine LeO.bind ?_ (fun _ => ?_)
set_option maxHeartbeats 8000000 in
set_option maxRecDepth 100000 in
theorem abugidaref08_may.calls (k : Nat) (A0 : Option Addr) (c0 : Nat) (l0 : List Int) (A1 : Option Addr) (c1 : Nat) (l1 : List Int) (a2 : Int) (r : Int) (w : World) (hr0 : Kd.C (Kd.int .i64) w A0 l0.length l0) (hc0 : l0.length ≤ c0) (hr1 : Kd.C (Kd.int .i64) w A1 l1.length l1) (hc1 : l1.length ≤ c1) (h : abugidaref08_may.f k l0 l1 a2 = some r) :
    Calls Try.prog 29 #[.slice A0 l0.length c0, .slice A1 l1.length c1, .int .i64 a2] w fun e w' => e = .returned (.int .i64 r) ∧ Drawn0 w w' := by
  have HR0 := Aside0.mk hr0
  have HC0 := Aside0.mk hc0
  clear hr0 hc0
  have HR1 := Aside0.mk hr1
  have HC1 := Aside0.mk hc1
  clear hr1 hc1
  have H : (if 0 ≤ a2 then (if a2 < (l0.length : Int) then ((abugidaref05_Class.f k (rd l0 a2)).bind fun t304 => (if a2 < (l1.length : Int) then ((abugidaref05_Class.f k (rd l1 a2)).bind fun t306 => (if t304 = 1 then (some 2) else (if a2 = (wrap64 ((l0.length : Int) - 1)) then (some 0) else (if 0 ≤ (wrap64 (a2 + 1)) then (if (wrap64 (a2 + 1)) < (l0.length : Int) then ((abugidaref05_Class.f k (rd l0 (wrap64 (a2 + 1)))).bind fun t308 => (if t308 = 1 then (abugidaref08_may.j0 k l0 a2 t304 t306 true) else (if t308 = 2 then (abugidaref08_may.j0 k l0 a2 t304 t306 true) else (abugidaref08_may.j0 k l0 a2 t304 t306 (t308 == 4))))) else (none)) else (none))))) else (none))) else (none)) else (none)) = some r := h
  clear h
  by_cases c4 : 0 ≤ a2
  · rw [if_pos c4] at H
    have c4b0 : decide (0 ≤ a2) = true := decide_eq_true c4
    clear c4
    by_cases c5 : a2 < (l0.length : Int)
    · rw [if_pos c5] at H
      have c5b0 : decide (a2 < (l0.length : Int)) = true := decide_eq_true c5
      clear c5
      replace H := Option.bind_eq_some_iff.mp H
      obtain ⟨t304, A60, H⟩ := H
      replace H : (if a2 < (l1.length : Int) then ((abugidaref05_Class.f k (rd l1 a2)).bind fun t306 => (if t304 = 1 then (some 2) else (if a2 = (wrap64 ((l0.length : Int) - 1)) then (some 0) else (if 0 ≤ (wrap64 (a2 + 1)) then (if (wrap64 (a2 + 1)) < (l0.length : Int) then ((abugidaref05_Class.f k (rd l0 (wrap64 (a2 + 1)))).bind fun t308 => (if t308 = 1 then (abugidaref08_may.j0 k l0 a2 t304 t306 true) else (if t308 = 2 then (abugidaref08_may.j0 k l0 a2 t304 t306 true) else (abugidaref08_may.j0 k l0 a2 t304 t306 (t308 == 4))))) else (none)) else (none))))) else (none)) = some r := H
      have A6 := Aside0.mk A60
      clear A60
      by_cases c7 : a2 < (l1.length : Int)
      · rw [if_pos c7] at H
        have c7b0 : decide (a2 < (l1.length : Int)) = true := decide_eq_true c7
        clear c7
        replace H := Option.bind_eq_some_iff.mp H
        obtain ⟨t306, A80, H⟩ := H
        replace H : (if t304 = 1 then (some 2) else (if a2 = (wrap64 ((l0.length : Int) - 1)) then (some 0) else (if 0 ≤ (wrap64 (a2 + 1)) then (if (wrap64 (a2 + 1)) < (l0.length : Int) then ((abugidaref05_Class.f k (rd l0 (wrap64 (a2 + 1)))).bind fun t308 => (if t308 = 1 then (abugidaref08_may.j0 k l0 a2 t304 t306 true) else (if t308 = 2 then (abugidaref08_may.j0 k l0 a2 t304 t306 true) else (abugidaref08_may.j0 k l0 a2 t304 t306 (t308 == 4))))) else (none)) else (none)))) = some r := H
        have A8 := Aside0.mk A80
        clear A80
        by_cases c9 : t304 = 1
        · rw [if_pos c9] at H
          have c9b0 : (t304 == 1) = true := beq_iff_eq.mpr c9
          have c9b1 : (t304 != 1) = false := bne_eq_false_iff_eq.mpr c9
          clear c9
          obtain rfl := Option.some.inj H
          have p303 : 0 ≤ (a2 : Int) := of_decide_eq_true (by first | (with_reducible assumption) | assumption)
          have q303 : a2 < (l0.length : Int) := of_decide_eq_true (by first | (with_reducible assumption) | assumption)
          obtain ⟨ad303, e303, hx303_0⟩ := Kd.at_int HR0.out a2 p303 q303
          cases e303
          replace p303 := eq_true p303
          replace q303 := eq_true q303
          go_enter Try.func29, Try.ntmps29
          go_wp2_with (first | ((with_reducible refine gate_callee (f := 39) rfl ?_); refine goesL_ (some 14) rfl rfl Try.func39 (by kernel_rfl) rfl #[.int .i64 (rd l0 a2)] rfl (by (try simp only [List.map_toArray, List.map_cons, List.map_nil]); first | done | rfl | (simp only [List.length_drop, List.length_take]; rfl)) ?_; (with_reducible refine (abugidaref05_Class.calls k (rd l0 a2) t304 _ A6.out).mono ?_); rintro e w' ⟨rfl, ⟨nd, rfl⟩⟩; refine ⟨_, rfl, ?_⟩; have p305 : 0 ≤ (a2 : Int) := of_decide_eq_true (by first | (with_reducible assumption) | assumption); have q305 : a2 < (l1.length : Int) := of_decide_eq_true (by first | (with_reducible assumption) | assumption); obtain ⟨ad305, e305, hx305_0⟩ := Kd.at_int HR1.out a2 p305 q305; cases e305; replace p305 := eq_true p305; replace q305 := eq_true q305) | ((with_reducible refine gate_callee (f := 39) rfl ?_); refine goesL_ (some 19) rfl rfl Try.func39 (by kernel_rfl) rfl #[.int .i64 (rd l1 a2)] rfl (by (try simp only [List.map_toArray, List.map_cons, List.map_nil]); first | done | rfl | (simp only [List.length_drop, List.length_take]; rfl)) ?_; (with_reducible refine (abugidaref05_Class.calls k (rd l1 a2) t306 _ A8.out).mono ?_); rintro e w' ⟨rfl, ⟨nd, rfl⟩⟩; refine ⟨_, rfl, ?_⟩))
          go_ret
          exact ⟨by first | rfl | (simp; done) | (simp [*]; done), by repeat (first | exact Drawn0.refl _ | apply Drawn0.step)⟩
        · rw [if_neg c9] at H
          have c9b0 : (t304 == 1) = false := beq_eq_false_iff_ne.mpr c9
          have c9b1 : (t304 != 1) = true := bne_iff_ne.mpr c9
          by_cases c10 : a2 = (wrap64 ((l0.length : Int) - 1))
          · rw [if_pos c10] at H
            have c10b0 : (a2 == (wrap64 ((l0.length : Int) - 1))) = true := beq_iff_eq.mpr c10
            have c10b1 : (a2 != (wrap64 ((l0.length : Int) - 1))) = false := bne_eq_false_iff_eq.mpr c10
            clear c10
            obtain rfl := Option.some.inj H
            have p303 : 0 ≤ (a2 : Int) := of_decide_eq_true (by first | (with_reducible assumption) | assumption)
            have q303 : a2 < (l0.length : Int) := of_decide_eq_true (by first | (with_reducible assumption) | assumption)
            obtain ⟨ad303, e303, hx303_0⟩ := Kd.at_int HR0.out a2 p303 q303
            cases e303
            replace p303 := eq_true p303
            replace q303 := eq_true q303
            go_enter Try.func29, Try.ntmps29
            go_wp2_with (first | ((with_reducible refine gate_callee (f := 39) rfl ?_); refine goesL_ (some 14) rfl rfl Try.func39 (by kernel_rfl) rfl #[.int .i64 (rd l0 a2)] rfl (by (try simp only [List.map_toArray, List.map_cons, List.map_nil]); first | done | rfl | (simp only [List.length_drop, List.length_take]; rfl)) ?_; (with_reducible refine (abugidaref05_Class.calls k (rd l0 a2) t304 _ A6.out).mono ?_); rintro e w' ⟨rfl, ⟨nd, rfl⟩⟩; refine ⟨_, rfl, ?_⟩; have p305 : 0 ≤ (a2 : Int) := of_decide_eq_true (by first | (with_reducible assumption) | assumption); have q305 : a2 < (l1.length : Int) := of_decide_eq_true (by first | (with_reducible assumption) | assumption); obtain ⟨ad305, e305, hx305_0⟩ := Kd.at_int HR1.out a2 p305 q305; cases e305; replace p305 := eq_true p305; replace q305 := eq_true q305) | ((with_reducible refine gate_callee (f := 39) rfl ?_); refine goesL_ (some 19) rfl rfl Try.func39 (by kernel_rfl) rfl #[.int .i64 (rd l1 a2)] rfl (by (try simp only [List.map_toArray, List.map_cons, List.map_nil]); first | done | rfl | (simp only [List.length_drop, List.length_take]; rfl)) ?_; (with_reducible refine (abugidaref05_Class.calls k (rd l1 a2) t306 _ A8.out).mono ?_); rintro e w' ⟨rfl, ⟨nd, rfl⟩⟩; refine ⟨_, rfl, ?_⟩))
            go_ret
            exact ⟨by first | rfl | (simp; done) | (simp [*]; done), by repeat (first | exact Drawn0.refl _ | apply Drawn0.step)⟩
          · rw [if_neg c10] at H
            have c10b0 : (a2 == (wrap64 ((l0.length : Int) - 1))) = false := beq_eq_false_iff_ne.mpr c10
            have c10b1 : (a2 != (wrap64 ((l0.length : Int) - 1))) = true := bne_iff_ne.mpr c10
            obtain ⟨ji11, hji11⟩ : ∃ j_ : Int, (wrap64 (a2 + 1)) = j_ := ⟨_, rfl⟩
            replace H : (if 0 ≤ (ji11) then (if (ji11) < (l0.length : Int) then ((abugidaref05_Class.f k (rd l0 (ji11))).bind fun t308 => (if t308 = 1 then (abugidaref08_may.j0 k l0 a2 t304 t306 true) else (if t308 = 2 then (abugidaref08_may.j0 k l0 a2 t304 t306 true) else (abugidaref08_may.j0 k l0 a2 t304 t306 (t308 == 4))))) else (none)) else (none)) = some r := by first | (rw [hji11] at H; exact H) | (simp only [hji11] at H ⊢; exact H)
            (try rw [hji11] at A6)
            (try rw [hji11] at A8)
            have hji11w : (IntKind.i64.wrap (a2 + 1)) = ji11 := (i64_w _).trans hji11
            by_cases c12 : 0 ≤ (ji11)
            · rw [if_pos c12] at H
              have c12b0 : decide (0 ≤ (ji11)) = true := decide_eq_true c12
              clear c12
              by_cases c13 : (ji11) < (l0.length : Int)
              · rw [if_pos c13] at H
                have c13b0 : decide ((ji11) < (l0.length : Int)) = true := decide_eq_true c13
                clear c13
                replace H := Option.bind_eq_some_iff.mp H
                obtain ⟨t308, A140, H⟩ := H
                replace H : (if t308 = 1 then (abugidaref08_may.j0 k l0 a2 t304 t306 true) else (if t308 = 2 then (abugidaref08_may.j0 k l0 a2 t304 t306 true) else (abugidaref08_may.j0 k l0 a2 t304 t306 (t308 == 4)))) = some r := H
                have A14 := Aside0.mk A140
                clear A140
                have HC15 := Aside0.mk H
                clear H
                have p303 : 0 ≤ (a2 : Int) := of_decide_eq_true (by first | (with_reducible assumption) | assumption)
                have q303 : a2 < (l0.length : Int) := of_decide_eq_true (by first | (with_reducible assumption) | assumption)
                obtain ⟨ad303, e303, hx303_0⟩ := Kd.at_int HR0.out a2 p303 q303
                cases e303
                replace p303 := eq_true p303
                replace q303 := eq_true q303
                go_enter Try.func29, Try.ntmps29
                go_upto_region 8 with (first | ((with_reducible refine gate_callee (f := 39) rfl ?_); refine goesL_ (some 14) rfl rfl Try.func39 (by kernel_rfl) rfl #[.int .i64 (rd l0 a2)] rfl (by (try simp only [List.map_toArray, List.map_cons, List.map_nil]); first | done | rfl | (simp only [List.length_drop, List.length_take]; rfl)) ?_; (with_reducible refine (abugidaref05_Class.calls k (rd l0 a2) t304 _ A6.out).mono ?_); rintro e w' ⟨rfl, ⟨nd, rfl⟩⟩; refine ⟨_, rfl, ?_⟩; have p305 : 0 ≤ (a2 : Int) := of_decide_eq_true (by first | (with_reducible assumption) | assumption); have q305 : a2 < (l1.length : Int) := of_decide_eq_true (by first | (with_reducible assumption) | assumption); obtain ⟨ad305, e305, hx305_0⟩ := Kd.at_int HR1.out a2 p305 q305; cases e305; replace p305 := eq_true p305; replace q305 := eq_true q305) | ((with_reducible refine gate_callee (f := 39) rfl ?_); refine goesL_ (some 19) rfl rfl Try.func39 (by kernel_rfl) rfl #[.int .i64 (rd l1 a2)] rfl (by (try simp only [List.map_toArray, List.map_cons, List.map_nil]); first | done | rfl | (simp only [List.length_drop, List.length_take]; rfl)) ?_; (with_reducible refine (abugidaref05_Class.calls k (rd l1 a2) t306 _ A8.out).mono ?_); rintro e w' ⟨rfl, ⟨nd, rfl⟩⟩; refine ⟨_, rfl, ?_⟩; have p307 : 0 ≤ ((ji11) : Int) := of_decide_eq_true (by first | (with_reducible assumption) | assumption); have q307 : (ji11) < (l0.length : Int) := of_decide_eq_true (by first | (with_reducible assumption) | assumption); obtain ⟨ad307, e307, hx307_0⟩ := Kd.at_int HR0.out (ji11) p307 q307; obtain rfl : ad303 = ad307 := (by injection e307); replace p307 := eq_true p307; replace q307 := eq_true q307) | ((with_reducible refine gate_callee (f := 39) rfl ?_); refine goesL_ (some 32) rfl rfl Try.func39 (by kernel_rfl) rfl #[.int .i64 (rd l0 (ji11))] rfl (by (try simp only [List.map_toArray, List.map_cons, List.map_nil]); first | done | (simp only [hji11]; rfl) | rfl | (simp only [List.length_drop, List.length_take]; rfl)) ?_; (with_reducible refine (abugidaref05_Class.calls k (rd l0 (ji11)) t308 _ A14.out).mono ?_); rintro e w' ⟨rfl, ⟨nd, rfl⟩⟩; refine ⟨_, rfl, ?_⟩))
                (try simp only [Act.put, List.setIfInBounds_toArray, List.set_cons_zero, List.set_cons_succ])
                go_cut [42] (fun v42 wc => ∃ (kq : Nat) (x42_14 : Bool), v42 = .bool x42_14 ∧ Aside0 (abugidaref08_may.j0 kq l0 a2 t304 t306 x42_14 = some r) ∧ Aside0 (kq ≤ k) ∧ Drawn0 w wc)
                case first =>
                  have H := HC15.out
                  clear HC15
                  by_cases c16 : t308 = 1
                  · rw [if_pos c16] at H
                    have c16b0 : (t308 == 1) = true := beq_iff_eq.mpr c16
                    have c16b1 : (t308 != 1) = false := bne_eq_false_iff_eq.mpr c16
                    clear c16
                    (first | rw [c16b0] | (simp only [i64_w, i32_w]; rw [c16b0]) | skip)
                    have H' := Aside0.mk H
                    clear H
                    go_wp2
                    go_meet
                    case rel => exact ⟨_, (true), (by first | rfl | (simp; done) | (simp [*]; done)), H', ⟨by first | omega | exact Nat.le_refl _⟩, by repeat (first | exact Drawn0.refl _ | apply Drawn0.step)⟩
                  · rw [if_neg c16] at H
                    have c16b0 : (t308 == 1) = false := beq_eq_false_iff_ne.mpr c16
                    have c16b1 : (t308 != 1) = true := bne_iff_ne.mpr c16
                    (first | rw [c16b0] | (simp only [i64_w, i32_w]; rw [c16b0]) | skip)
                    by_cases c17 : t308 = 2
                    · rw [if_pos c17] at H
                      have c17b0 : (t308 == 2) = true := beq_iff_eq.mpr c17
                      have c17b1 : (t308 != 2) = false := bne_eq_false_iff_eq.mpr c17
                      clear c17
                      have H' := Aside0.mk H
                      clear H
                      go_wp2
                      go_meet
                      case rel => exact ⟨_, (true), (by first | rfl | (simp; done) | (simp [*]; done)), H', ⟨by first | omega | exact Nat.le_refl _⟩, by repeat (first | exact Drawn0.refl _ | apply Drawn0.step)⟩
                    · rw [if_neg c17] at H
                      have c17b0 : (t308 == 2) = false := beq_eq_false_iff_ne.mpr c17
                      have c17b1 : (t308 != 2) = true := bne_iff_ne.mpr c17
                      have H' := Aside0.mk H
                      clear H
                      go_wp2
                      go_meet
                      case rel => exact ⟨_, ((t308 == 4)), (by first | rfl | (simp; done) | (simp [*]; done)), H', ⟨by first | omega | exact Nat.le_refl _⟩, by repeat (first | exact Drawn0.refl _ | apply Drawn0.step)⟩
                case rest =>
                  clear HC15
                  try clear c1
                  try clear c2
                  try clear p2
                  try clear c3
                  try clear p3
                  try clear q3
                  try clear hx3
                  try clear c4
                  try clear c4b0
                  try clear c5
                  try clear c5b0
                  try clear p6
                  try clear c7
                  try clear c7b0
                  try clear c9
                  try clear c9b0
                  try clear c9b1
                  try clear c10
                  try clear c10b0
                  try clear c10b1
                  try clear c12
                  try clear c12b0
                  try clear c13
                  try clear c13b0
                  try clear c16
                  try clear c16b0
                  try clear c16b1
                  try clear c17
                  try clear c17b0
                  try clear c17b1
                  try clear hx303_0
                  try clear hx305_0
                  try clear hx307_0
                  try clear p303
                  try clear p305
                  try clear p307
                  try clear q303
                  try clear q305
                  try clear q307
                  obtain ⟨kq, x42_14, rfl, HA, HJ14, ⟨mc14, rfl⟩⟩ := hcut
                  cases kq with
                  | zero => exact absurd HA.out (by simp [abugidaref08_may.j0])
                  | succ kj14 =>
                    have H := HA.out
                    clear HA
                    simp only [abugidaref08_may.j0] at H
                    by_cases c18 : x42_14 = true
                    · subst c18
                      have H1 : (some 0) = some r := by rw [if_pos rfl] at H; exact H
                      clear H
                      have H := H1
                      clear H1
                      obtain rfl := Option.some.inj H
                      go_wp2
                      go_ret
                      exact ⟨by first | rfl | (simp; done) | (simp only [← hji11] <;> (first | rfl | simp)) | (simp [*]; done), by repeat (first | exact Drawn0.refl _ | apply Drawn0.step)⟩
                    · replace c18 := Bool.eq_false_iff.mpr c18
                      subst c18
                      have H1 : (if t304 = 2 then (abugidaref08_may.j1 kj14 l0 a2 t306 true) else (abugidaref08_may.j1 kj14 l0 a2 t306 (t306 == 14))) = some r := by rw [if_neg (show ¬ (false = true) by decide)] at H; exact H
                      clear H
                      have H := H1
                      clear H1
                      have HC19 := Aside0.mk H
                      clear H
                      go_upto_region 10 with (fail)
                      go_cut [48] (fun v48 wc => ∃ (kq : Nat) (x48_18 : Bool), v48 = .bool x48_18 ∧ Aside0 (abugidaref08_may.j1 kq l0 a2 t306 x48_18 = some r) ∧ Aside0 (kq ≤ kj14) ∧ Drawn0 w wc)
                      case first =>
                        have H := HC19.out
                        clear HC19
                        by_cases c20 : t304 = 2
                        · rw [if_pos c20] at H
                          have c20b0 : (t304 == 2) = true := beq_iff_eq.mpr c20
                          have c20b1 : (t304 != 2) = false := bne_eq_false_iff_eq.mpr c20
                          clear c20
                          (first | rw [c20b0] | (simp only [i64_w, i32_w]; rw [c20b0]) | skip)
                          have H' := Aside0.mk H
                          clear H
                          go_wp2
                          go_meet
                          case rel => exact ⟨_, (true), (by first | rfl | (simp; done) | (simp [*]; done)), H', ⟨by have := HJ14.out; first | omega | exact Nat.le_refl _⟩, by repeat (first | exact Drawn0.refl _ | apply Drawn0.step)⟩
                        · rw [if_neg c20] at H
                          have c20b0 : (t304 == 2) = false := beq_eq_false_iff_ne.mpr c20
                          have c20b1 : (t304 != 2) = true := bne_iff_ne.mpr c20
                          (first | rw [c20b0] | (simp only [i64_w, i32_w]; rw [c20b0]) | skip)
                          have H' := Aside0.mk H
                          clear H
                          go_wp2
                          go_meet
                          case rel => exact ⟨_, ((t306 == 14)), (by first | rfl | (simp; done) | (simp [*]; done)), H', ⟨by have := HJ14.out; first | omega | exact Nat.le_refl _⟩, by repeat (first | exact Drawn0.refl _ | apply Drawn0.step)⟩
                      case rest =>
                        clear HC19
                        try clear c1
                        try clear c2
                        try clear p2
                        try clear c3
                        try clear p3
                        try clear q3
                        try clear hx3
                        try clear c4
                        try clear c4b0
                        try clear c5
                        try clear c5b0
                        try clear p6
                        try clear c7
                        try clear c7b0
                        try clear c9
                        try clear c9b0
                        try clear c9b1
                        try clear c10
                        try clear c10b0
                        try clear c10b1
                        try clear c12
                        try clear c12b0
                        try clear c13
                        try clear c13b0
                        try clear c14
                        try clear c16
                        try clear c16b0
                        try clear c16b1
                        try clear c17
                        try clear c17b0
                        try clear c17b1
                        try clear c18
                        try clear c20
                        try clear c20b0
                        try clear c20b1
                        try clear hx303_0
                        try clear hx305_0
                        try clear hx307_0
                        try clear p2
                        try clear p3
                        try clear p303
                        try clear p305
                        try clear p307
                        try clear p6
                        try clear q3
                        try clear q303
                        try clear q305
                        try clear q307
                        obtain ⟨kq, x48_18, rfl, HA, HJ18, ⟨mc18, rfl⟩⟩ := hcut
                        cases kq with
                        | zero => exact absurd HA.out (by simp [abugidaref08_may.j1])
                        | succ kj18 =>
                          have H := HA.out
                          clear HA
                          simp only [abugidaref08_may.j1] at H
                          by_cases c21 : x48_18 = true
                          · subst c21
                            have H1 : (some 1) = some r := by rw [if_pos rfl] at H; exact H
                            clear H
                            have H := H1
                            clear H1
                            obtain rfl := Option.some.inj H
                            go_wp2
                            go_ret
                            exact ⟨by first | rfl | (simp; done) | (simp only [← hji11] <;> (first | rfl | simp)) | (simp [*]; done), by repeat (first | exact Drawn0.refl _ | apply Drawn0.step)⟩
                          · replace c21 := Bool.eq_false_iff.mpr c21
                            subst c21
                            have H1 : (if t306 = 13 then (some 0) else (if 0 ≤ a2 then (if a2 < (l0.length : Int) then (if (rd l0 a2) = 45 then (some 1) else ((abugidaref05_Script.f (rd l0 a2)).bind fun t311 => (if t311 = 3 then (if 0 ≤ (wrap64 (a2 + 1)) then (if (wrap64 (a2 + 1)) < (l0.length : Int) then ((abugidaref05_Script.f (rd l0 (wrap64 (a2 + 1)))).bind fun t313 => (if t313 = 3 then (some 1) else (some 0))) else (none)) else (none)) else (some 0)))) else (none)) else (none))) = some r := by rw [if_neg (show ¬ (false = true) by decide)] at H; exact H
                            clear H
                            have H := H1
                            clear H1
                            by_cases c22 : t306 = 13
                            · rw [if_pos c22] at H
                              have c22b0 : (t306 == 13) = true := beq_iff_eq.mpr c22
                              have c22b1 : (t306 != 13) = false := bne_eq_false_iff_eq.mpr c22
                              clear c22
                              obtain rfl := Option.some.inj H
                              go_wp2
                              go_ret
                              exact ⟨by first | rfl | (simp; done) | (simp only [← hji11] <;> (first | rfl | simp)) | (simp [*]; done), by repeat (first | exact Drawn0.refl _ | apply Drawn0.step)⟩
                            · rw [if_neg c22] at H
                              have c22b0 : (t306 == 13) = false := beq_eq_false_iff_ne.mpr c22
                              have c22b1 : (t306 != 13) = true := bne_iff_ne.mpr c22
                              by_cases c23 : 0 ≤ a2
                              · rw [if_pos c23] at H
                                have c23b0 : decide (0 ≤ a2) = true := decide_eq_true c23
                                clear c23
                                by_cases c24 : a2 < (l0.length : Int)
                                · rw [if_pos c24] at H
                                  have c24b0 : decide (a2 < (l0.length : Int)) = true := decide_eq_true c24
                                  clear c24
                                  by_cases c25 : (rd l0 a2) = 45
                                  · rw [if_pos c25] at H
                                    have c25b0 : ((rd l0 a2) == 45) = true := beq_iff_eq.mpr c25
                                    have c25b1 : ((rd l0 a2) != 45) = false := bne_eq_false_iff_eq.mpr c25
                                    clear c25
                                    obtain rfl := Option.some.inj H
                                    have p309 : 0 ≤ (a2 : Int) := of_decide_eq_true (by first | (with_reducible assumption) | assumption)
                                    have q309 : a2 < (l0.length : Int) := of_decide_eq_true (by first | (with_reducible assumption) | assumption)
                                    obtain ⟨ad309, e309, hx309_0⟩ := Kd.at_int HR0.out a2 p309 q309
                                    obtain rfl : ad303 = ad309 := (by injection e309)
                                    replace p309 := eq_true p309
                                    replace q309 := eq_true q309
                                    go_wp2
                                    go_ret
                                    exact ⟨by first | rfl | (simp; done) | (simp only [← hji11] <;> (first | rfl | simp)) | (simp [*]; done), by repeat (first | exact Drawn0.refl _ | apply Drawn0.step)⟩
                                  · rw [if_neg c25] at H
                                    have c25b0 : ((rd l0 a2) == 45) = false := beq_eq_false_iff_ne.mpr c25
                                    have c25b1 : ((rd l0 a2) != 45) = true := bne_iff_ne.mpr c25
                                    replace H := Option.bind_eq_some_iff.mp H
                                    obtain ⟨t311, A260, H⟩ := H
                                    replace H : (if t311 = 3 then (if 0 ≤ (wrap64 (a2 + 1)) then (if (wrap64 (a2 + 1)) < (l0.length : Int) then ((abugidaref05_Script.f (rd l0 (wrap64 (a2 + 1)))).bind fun t313 => (if t313 = 3 then (some 1) else (some 0))) else (none)) else (none)) else (some 0)) = some r := H
                                    have A26 := Aside0.mk A260
                                    clear A260
                                    by_cases c27 : t311 = 3
                                    · rw [if_pos c27] at H
                                      have c27b0 : (t311 == 3) = true := beq_iff_eq.mpr c27
                                      have c27b1 : (t311 != 3) = false := bne_eq_false_iff_eq.mpr c27
                                      clear c27
                                      obtain ⟨ji28, hji28⟩ : ∃ j_ : Int, (wrap64 (a2 + 1)) = j_ := ⟨_, rfl⟩
                                      replace H : (if 0 ≤ (ji28) then (if (ji28) < (l0.length : Int) then ((abugidaref05_Script.f (rd l0 (ji28))).bind fun t313 => (if t313 = 3 then (some 1) else (some 0))) else (none)) else (none)) = some r := by first | (rw [hji28] at H; exact H) | (simp only [hji28] at H ⊢; exact H)
                                      (try (obtain rfl : ji28 = ji11 := hji28.symm.trans hji11))
                                      (try rw [hji28] at A26)
                                      have hji28w : (IntKind.i64.wrap (a2 + 1)) = ji28 := (i64_w _).trans hji28
                                      by_cases c29 : 0 ≤ (ji28)
                                      · rw [if_pos c29] at H
                                        have c29b0 : decide (0 ≤ (ji28)) = true := decide_eq_true c29
                                        clear c29
                                        by_cases c30 : (ji28) < (l0.length : Int)
                                        · rw [if_pos c30] at H
                                          have c30b0 : decide ((ji28) < (l0.length : Int)) = true := decide_eq_true c30
                                          clear c30
                                          replace H := Option.bind_eq_some_iff.mp H
                                          obtain ⟨t313, A310, H⟩ := H
                                          replace H : (if t313 = 3 then (some 1) else (some 0)) = some r := H
                                          have A31 := Aside0.mk A310
                                          clear A310
                                          by_cases c32 : t313 = 3
                                          · rw [if_pos c32] at H
                                            have c32b0 : (t313 == 3) = true := beq_iff_eq.mpr c32
                                            have c32b1 : (t313 != 3) = false := bne_eq_false_iff_eq.mpr c32
                                            clear c32
                                            obtain rfl := Option.some.inj H
                                            have p309 : 0 ≤ (a2 : Int) := of_decide_eq_true (by first | (with_reducible assumption) | assumption)
                                            have q309 : a2 < (l0.length : Int) := of_decide_eq_true (by first | (with_reducible assumption) | assumption)
                                            obtain ⟨ad309, e309, hx309_0⟩ := Kd.at_int HR0.out a2 p309 q309
                                            obtain rfl : ad303 = ad309 := (by injection e309)
                                            replace p309 := eq_true p309
                                            replace q309 := eq_true q309
                                            have p310 : 0 ≤ (a2 : Int) := of_decide_eq_true (by first | (with_reducible assumption) | assumption)
                                            have q310 : a2 < (l0.length : Int) := of_decide_eq_true (by first | (with_reducible assumption) | assumption)
                                            obtain ⟨ad310, e310, hx310_0⟩ := Kd.at_int HR0.out a2 p310 q310
                                            obtain rfl : ad303 = ad310 := (by injection e310)
                                            replace p310 := eq_true p310
                                            replace q310 := eq_true q310
                                            go_wp2_with (first | (go_at_call 40; (with_reducible refine (abugidaref05_Script.calls (rd l0 a2) t311 _ A26.out).mono ?_); rintro e w' ⟨rfl, ⟨nd, rfl⟩⟩; have p312 : 0 ≤ ((ji28) : Int) := of_decide_eq_true (by first | (with_reducible assumption) | assumption); have q312 : (ji28) < (l0.length : Int) := of_decide_eq_true (by first | (with_reducible assumption) | assumption); obtain ⟨ad312, e312, hx312_0⟩ := Kd.at_int HR0.out (ji28) p312 q312; obtain rfl : ad303 = ad312 := (by injection e312); replace p312 := eq_true p312; replace q312 := eq_true q312) | (go_at_call 40; (with_reducible refine (abugidaref05_Script.calls (rd l0 (ji28)) t313 _ A31.out).mono ?_); rintro e w' ⟨rfl, ⟨nd, rfl⟩⟩))
                                            go_ret
                                            exact ⟨by first | rfl | (simp; done) | (simp only [← hji11, ← hji28] <;> (first | rfl | simp)) | (simp [*]; done), by repeat (first | exact Drawn0.refl _ | apply Drawn0.step)⟩
                                          · rw [if_neg c32] at H
                                            have c32b0 : (t313 == 3) = false := beq_eq_false_iff_ne.mpr c32
                                            have c32b1 : (t313 != 3) = true := bne_iff_ne.mpr c32
                                            obtain rfl := Option.some.inj H
                                            have p309 : 0 ≤ (a2 : Int) := of_decide_eq_true (by first | (with_reducible assumption) | assumption)
                                            have q309 : a2 < (l0.length : Int) := of_decide_eq_true (by first | (with_reducible assumption) | assumption)
                                            obtain ⟨ad309, e309, hx309_0⟩ := Kd.at_int HR0.out a2 p309 q309
                                            obtain rfl : ad303 = ad309 := (by injection e309)
                                            replace p309 := eq_true p309
                                            replace q309 := eq_true q309
                                            have p310 : 0 ≤ (a2 : Int) := of_decide_eq_true (by first | (with_reducible assumption) | assumption)
                                            have q310 : a2 < (l0.length : Int) := of_decide_eq_true (by first | (with_reducible assumption) | assumption)
                                            obtain ⟨ad310, e310, hx310_0⟩ := Kd.at_int HR0.out a2 p310 q310
                                            obtain rfl : ad303 = ad310 := (by injection e310)
                                            replace p310 := eq_true p310
                                            replace q310 := eq_true q310
                                            go_wp2_with (first | (go_at_call 40; (with_reducible refine (abugidaref05_Script.calls (rd l0 a2) t311 _ A26.out).mono ?_); rintro e w' ⟨rfl, ⟨nd, rfl⟩⟩; have p312 : 0 ≤ ((ji28) : Int) := of_decide_eq_true (by first | (with_reducible assumption) | assumption); have q312 : (ji28) < (l0.length : Int) := of_decide_eq_true (by first | (with_reducible assumption) | assumption); obtain ⟨ad312, e312, hx312_0⟩ := Kd.at_int HR0.out (ji28) p312 q312; obtain rfl : ad303 = ad312 := (by injection e312); replace p312 := eq_true p312; replace q312 := eq_true q312) | (go_at_call 40; (with_reducible refine (abugidaref05_Script.calls (rd l0 (ji28)) t313 _ A31.out).mono ?_); rintro e w' ⟨rfl, ⟨nd, rfl⟩⟩))
                                            go_ret
                                            exact ⟨by first | rfl | (simp; done) | (simp only [← hji11, ← hji28] <;> (first | rfl | simp)) | (simp [*]; done), by repeat (first | exact Drawn0.refl _ | apply Drawn0.step)⟩
                                        · rw [if_neg c30] at H
                                          exact absurd H (by simp)
                                      · rw [if_neg c29] at H
                                        exact absurd H (by simp)
                                    · rw [if_neg c27] at H
                                      have c27b0 : (t311 == 3) = false := beq_eq_false_iff_ne.mpr c27
                                      have c27b1 : (t311 != 3) = true := bne_iff_ne.mpr c27
                                      obtain rfl := Option.some.inj H
                                      have p309 : 0 ≤ (a2 : Int) := of_decide_eq_true (by first | (with_reducible assumption) | assumption)
                                      have q309 : a2 < (l0.length : Int) := of_decide_eq_true (by first | (with_reducible assumption) | assumption)
                                      obtain ⟨ad309, e309, hx309_0⟩ := Kd.at_int HR0.out a2 p309 q309
                                      obtain rfl : ad303 = ad309 := (by injection e309)
                                      replace p309 := eq_true p309
                                      replace q309 := eq_true q309
                                      have p310 : 0 ≤ (a2 : Int) := of_decide_eq_true (by first | (with_reducible assumption) | assumption)
                                      have q310 : a2 < (l0.length : Int) := of_decide_eq_true (by first | (with_reducible assumption) | assumption)
                                      obtain ⟨ad310, e310, hx310_0⟩ := Kd.at_int HR0.out a2 p310 q310
                                      obtain rfl : ad303 = ad310 := (by injection e310)
                                      replace p310 := eq_true p310
                                      replace q310 := eq_true q310
                                      go_wp2_with (first | (go_at_call 40; (with_reducible refine (abugidaref05_Script.calls (rd l0 a2) t311 _ A26.out).mono ?_); rintro e w' ⟨rfl, ⟨nd, rfl⟩⟩))
                                      go_ret
                                      exact ⟨by first | rfl | (simp; done) | (simp only [← hji11] <;> (first | rfl | simp)) | (simp [*]; done), by repeat (first | exact Drawn0.refl _ | apply Drawn0.step)⟩
                                · rw [if_neg c24] at H
                                  exact absurd H (by simp)
                              · rw [if_neg c23] at H
                                exact absurd H (by simp)
              · rw [if_neg c13] at H
                exact absurd H (by simp)
            · rw [if_neg c12] at H
              exact absurd H (by simp)
      · rw [if_neg c7] at H
        exact absurd H (by simp)
    · rw [if_neg c5] at H
      exact absurd H (by simp)
  · rw [if_neg c4] at H
    exact absurd H (by simp)

/-! ### abugidaref08_May: function 13 -/
mutual
def abugidaref08_May.l0 : Nat → ByteArray → List (S33) → List Int → List Int → Int → Option (List Int)
  | 0, _, _, _, _, _ => none
  | k + 1, x0, x3, x4, x5, x7 => if x7 < (x3.length : Int) then (if 0 ≤ x7 then ((abugidaref06_Base.f k x0 ((rd_T33 x3 x7).f0) ((rd_T33 x3 x7).f1)).bind fun t318 => (if 0 ≤ t318 then (if t318 < (x0.size : Int) then (if x4.length < 17592186044416 then (if 0 ≤ (wrap64 (((rd_T33 x3 x7).f1) - 1)) then (if (wrap64 (((rd_T33 x3 x7).f1) - 1)) < (x0.size : Int) then (if x5.length < 17592186044416 then (abugidaref08_May.l0 k x0 x3 (x4 ++ [wrap64 (bt x0 t318)]) (x5 ++ [wrap64 (bt x0 (wrap64 (((rd_T33 x3 x7).f1) - 1)))]) (wrap64 (x7 + 1))) else (none)) else (none)) else (none)) else (none)) else (none)) else (none))) else (none)) else (abugidaref08_May.l1 k x3 x4 x5 ([] : List Int) 0)
def abugidaref08_May.l1 : Nat → List (S33) → List Int → List Int → List Int → Int → Option (List Int)
  | 0, _, _, _, _, _ => none
  | k + 1, x3, x4, x5, x6, x8 => if x8 < (x3.length : Int) then ((abugidaref08_may.f k x4 x5 x8).bind fun t326 => (if x6.length < 17592186044416 then (abugidaref08_May.l1 k x3 x4 x5 (x6 ++ [t326]) (wrap64 (x8 + 1))) else (none))) else (some x6)
end
def abugidaref08_May.f (k : Nat) (a0 : ByteArray) : Option (List Int) := (abugidaref06_Split.f k a0).bind fun t314 => (abugidaref08_May.l0 k a0 t314 ([] : List Int) ([] : List Int) 0)
theorem abugidaref08_May.mono_l : ∀ k, (∀ y0 y1 y2 y3 y4, LeO (abugidaref08_May.l0 k y0 y1 y2 y3 y4) (abugidaref08_May.l0 (k + 1) y0 y1 y2 y3 y4)) ∧ (∀ y0 y1 y2 y3 y4, LeO (abugidaref08_May.l1 k y0 y1 y2 y3 y4) (abugidaref08_May.l1 (k + 1) y0 y1 y2 y3 y4))
  | 0 => ⟨fun _ _ _ _ _ r h => by simp [abugidaref08_May.l0] at h, fun _ _ _ _ _ r h => by simp [abugidaref08_May.l1] at h⟩
  | k + 1 => by
    obtain ⟨ih0, ih1⟩ := abugidaref08_May.mono_l k
    refine ⟨?_, ?_⟩
    · intro y0 y1 y2 y3 y4
      unfold abugidaref08_May.l0
      repeat' first
      | (with_reducible exact ih0 _ _ _ _ _)
      | (with_reducible exact ih1 _ _ _ _ _)
      | (with_reducible exact abugidaref06_Base.mono _ _ _ _)
      | (with_reducible exact abugidaref06_Split.mono _ _)
      | (with_reducible exact abugidaref08_may.mono _ _ _ _)
      | (with_reducible exact LeO.refl _)
      | (with_reducible exact LeO.none _)
      | (with_reducible refine LeO.ite ?_ ?_)
      | (with_reducible refine LeO.bind ?_ (fun _ => ?_))
      | exact ih0 _ _ _ _ _
      | exact ih1 _ _ _ _ _
      | exact abugidaref06_Base.mono _ _ _ _
      | exact abugidaref06_Split.mono _ _
      | exact abugidaref08_may.mono _ _ _ _
      | exact LeO.none _
      | refine LeO.ite ?_ ?_
      | refine LeO.bind ?_ (fun _ => ?_)
    · intro y0 y1 y2 y3 y4
      unfold abugidaref08_May.l1
      repeat' first
      | (with_reducible exact ih0 _ _ _ _ _)
      | (with_reducible exact ih1 _ _ _ _ _)
      | (with_reducible exact abugidaref06_Base.mono _ _ _ _)
      | (with_reducible exact abugidaref06_Split.mono _ _)
      | (with_reducible exact abugidaref08_may.mono _ _ _ _)
      | (with_reducible exact LeO.refl _)
      | (with_reducible exact LeO.none _)
      | (with_reducible refine LeO.ite ?_ ?_)
      | (with_reducible refine LeO.bind ?_ (fun _ => ?_))
      | exact ih0 _ _ _ _ _
      | exact ih1 _ _ _ _ _
      | exact abugidaref06_Base.mono _ _ _ _
      | exact abugidaref06_Split.mono _ _
      | exact abugidaref08_may.mono _ _ _ _
      | exact LeO.none _
      | refine LeO.ite ?_ ?_
      | refine LeO.bind ?_ (fun _ => ?_)
theorem abugidaref08_May.mono : ∀ a0 k, LeO (abugidaref08_May.f k a0) (abugidaref08_May.f (k + 1) a0) := by
  intro a0 k
  obtain ⟨ih0, ih1⟩ := abugidaref08_May.mono_l k
  unfold abugidaref08_May.f
  repeat' first
      | (with_reducible exact ih0 _ _ _ _ _)
      | (with_reducible exact ih1 _ _ _ _ _)
      | (with_reducible exact abugidaref06_Base.mono _ _ _ _)
      | (with_reducible exact abugidaref06_Split.mono _ _)
      | (with_reducible exact abugidaref08_may.mono _ _ _ _)
      | (with_reducible exact LeO.refl _)
      | (with_reducible exact LeO.none _)
      | (with_reducible refine LeO.ite ?_ ?_)
      | (with_reducible refine LeO.bind ?_ (fun _ => ?_))
      | exact ih0 _ _ _ _ _
      | exact ih1 _ _ _ _ _
      | exact abugidaref06_Base.mono _ _ _ _
      | exact abugidaref06_Split.mono _ _
      | exact abugidaref08_may.mono _ _ _ _
      | exact LeO.none _
      | refine LeO.ite ?_ ?_
      | refine LeO.bind ?_ (fun _ => ?_)
set_option maxHeartbeats 8000000 in
set_option maxRecDepth 100000 in
theorem abugidaref08_May.calls (k : Nat) (a0 : ByteArray) (r : List Int) (w : World) (h : abugidaref08_May.f k a0 = some r) :
    Calls Try.prog 13 #[.string a0] w fun e w' => ∃ v0_ : Value, e = .returned (v0_) ∧ Kd.R (Kd.int .i64) 3 w' w.heap.size (fun _ => True) v0_ r ∧ Below w.heap.size w w' := by
  have hu33 := Try.underlying33
  have HB := Aside0.mk (Below.refl w.heap.size w)
  have H : ((abugidaref06_Split.f k a0).bind fun t314 => (abugidaref08_May.l0 k a0 t314 ([] : List Int) ([] : List Int) 0)) = some r := h
  clear h
  replace H := Option.bind_eq_some_iff.mp H
  obtain ⟨t314, A20, H⟩ := H
  replace H : (abugidaref08_May.l0 k a0 t314 ([] : List Int) ([] : List Int) 0) = some r := H
  have A2 := Aside0.mk A20
  clear A20
  have H' := Aside0.mk H
  clear H
  go_enter Try.func13, Try.ntmps13
  go_wp2_with (first | ((with_reducible refine gate_callee (f := 27) rfl ?_); refine goesL_ (some 10) rfl rfl Try.func27 (by kernel_rfl) rfl #[.string a0] rfl (by (try simp only [List.map_toArray, List.map_cons, List.map_nil]); first | done | rfl | (simp only [List.length_drop, List.length_take]; rfl)) ?_; (with_reducible refine (abugidaref06_Split.calls k a0 t314 _ A2.out).mono ?_); rintro e w3 ⟨v315, rfl, ho0, hb⟩; refine ⟨_, rfl, ?_⟩; have n0_ := Aside0.mk (Kd.R_lower ho0 (below_size (by repeat (first | (with_reducible first | exact HB.out | apply below_alloc | apply pw_below_drewN | apply below_drew1) | exact HB.out)))); have n1_ := Aside0.mk (below_step (by repeat (first | (with_reducible first | exact HB.out | apply below_alloc | apply pw_below_drewN | apply below_drew1) | exact HB.out)) hb); clear HB; have HO316 := n0_; have HB := n1_; clear n0_ n1_; (try clear hb); (try clear hb2); (try clear hk); (try clear hi); (try clear ho0)))
  go_loopg [4, 5, 7] k (fun kq v4 v5 v7 w' => ∃ (x4_1 : List Int) (x5_1 : List Int) (x7_1 : Int), v7 = .int .i64 x7_1 ∧ Aside0 (abugidaref08_May.l0 kq a0 t314 x4_1 x5_1 x7_1 = some r) ∧ Aside0 (kq ≤ k) ∧ Aside0 (Kd.R k33 33 w' w.heap.size (fun _ => True) v315 t314) ∧ Aside0 (Kd.R (Kd.int .i64) 3 w' w.heap.size (fun k_ => some k_ ≠ (v5 : Value).ownBlock) v4 x4_1) ∧ Aside0 (Kd.R (Kd.int .i64) 3 w' w.heap.size (fun k_ => some k_ ≠ (v4 : Value).ownBlock) v5 x5_1) ∧ Aside0 (Below w.heap.size w w'))
  case atStart => exact ⟨(([] : List Int)), (([] : List Int)), (0), (by first | rfl | (simp; done) | (simp [*]; done)), H', ⟨Nat.le_refl _⟩, ⟨by (with_reducible repeat (first | apply Kd.R_alloc | apply Kd.R_drewN | apply Kd.R_drew)); exact HO316.out⟩, ⟨by first | exact Kd.R_nil _ _ _ _ _ | exact Kd.N_nil _ _ _ _ _ | exact Kd.V_nil _ _ _ _ _ | exact Kd.Q_nil _ _ _ _ _ | exact Kd.S_nil _ _ _ _ _⟩, ⟨by first | exact Kd.R_nil _ _ _ _ _ | exact Kd.N_nil _ _ _ _ _ | exact Kd.V_nil _ _ _ _ _ | exact Kd.Q_nil _ _ _ _ _ | exact Kd.S_nil _ _ _ _ _⟩, ⟨by repeat (first | (with_reducible first | exact HB.out | apply below_alloc | apply pw_below_drewN | apply below_drew1) | exact HB.out)⟩⟩
  case round =>
    clear H'
    try clear c1
    try clear c2
    try clear p2
    obtain ⟨x4_1, x5_1, x7_1, rfl, HA, HK1, HO_3, HO_4, HO_5, HB⟩ := hrel
    cases gk with
    | zero => exact absurd HA.out (by simp [abugidaref08_May.l0])
    | succ k1 =>
      have H := HA.out
      clear HA
      simp only [abugidaref08_May.l0] at H
      by_cases c4 : x7_1 < (t314.length : Int)
      · rw [if_pos c4] at H
        have c4b0 : decide (x7_1 < (t314.length : Int)) = true := decide_eq_true c4
        clear c4
        by_cases c5 : 0 ≤ x7_1
        · rw [if_pos c5] at H
          have c5b0 : decide (0 ≤ x7_1) = true := decide_eq_true c5
          clear c5
          replace H := Option.bind_eq_some_iff.mp H
          obtain ⟨t318, A60, H⟩ := H
          replace H : (if 0 ≤ t318 then (if t318 < (a0.size : Int) then (if x4_1.length < 17592186044416 then (if 0 ≤ (wrap64 (((rd_T33 t314 x7_1).f1) - 1)) then (if (wrap64 (((rd_T33 t314 x7_1).f1) - 1)) < (a0.size : Int) then (if x5_1.length < 17592186044416 then (abugidaref08_May.l0 k1 a0 t314 (x4_1 ++ [wrap64 (bt a0 t318)]) (x5_1 ++ [wrap64 (bt a0 (wrap64 (((rd_T33 t314 x7_1).f1) - 1)))]) (wrap64 (x7_1 + 1))) else (none)) else (none)) else (none)) else (none)) else (none)) else (none)) = some r := H
          have A6 := Aside0.mk A60
          clear A60
          by_cases c7 : 0 ≤ t318
          · rw [if_pos c7] at H
            have c7b0 : decide (0 ≤ t318) = true := decide_eq_true c7
            clear c7
            by_cases c8 : t318 < (a0.size : Int)
            · rw [if_pos c8] at H
              have c8b0 : decide (t318 < (a0.size : Int)) = true := decide_eq_true c8
              clear c8
              by_cases c10 : x4_1.length < 17592186044416
              · rw [if_pos c10] at H
                have LMc10 := Aside0.mk c10
                clear c10
                obtain ⟨y319, hy319⟩ : ∃ y_ : List Int, y_ = (x4_1 ++ [wrap64 (bt a0 t318)]) := ⟨_, rfl⟩
                replace H : (if 0 ≤ (wrap64 (((rd_T33 t314 x7_1).f1) - 1)) then (if (wrap64 (((rd_T33 t314 x7_1).f1) - 1)) < (a0.size : Int) then (if x5_1.length < 17592186044416 then (abugidaref08_May.l0 k1 a0 t314 y319 (x5_1 ++ [wrap64 (bt a0 (wrap64 (((rd_T33 t314 x7_1).f1) - 1)))]) (wrap64 (x7_1 + 1))) else (none)) else (none)) else (none)) = some r := by first | (rw [hy319]; with_reducible exact H) | (have H2_ := (Option.bind_some _ _).symm.trans H; rw [hy319]; with_reducible exact H2_) | (have H2_ := (Option.bind_some _ _).symm.trans H; with_reducible exact H2_) | with_reducible exact H | (rw [hy319]; exact H) | exact H
                have Ny319 := Aside0.mk hy319
                clear hy319
                obtain ⟨ji11, hji11⟩ : ∃ j_ : Int, (wrap64 (((rd_T33 t314 x7_1).f1) - 1)) = j_ := ⟨_, rfl⟩
                replace H : (if 0 ≤ (ji11) then (if (ji11) < (a0.size : Int) then (if x5_1.length < 17592186044416 then (abugidaref08_May.l0 k1 a0 t314 y319 (x5_1 ++ [wrap64 (bt a0 (ji11))]) (wrap64 (x7_1 + 1))) else (none)) else (none)) else (none)) = some r := by first | (rw [hji11] at H; exact H) | (simp only [hji11] at H ⊢; exact H)
                (try rw [hji11] at A6)
                have hji11w : (IntKind.i64.wrap (((rd_T33 t314 x7_1).f1) - 1)) = ji11 := (i64_w _).trans hji11
                by_cases c12 : 0 ≤ (ji11)
                · rw [if_pos c12] at H
                  have c12b0 : decide (0 ≤ (ji11)) = true := decide_eq_true c12
                  clear c12
                  by_cases c13 : (ji11) < (a0.size : Int)
                  · rw [if_pos c13] at H
                    have c13b0 : decide ((ji11) < (a0.size : Int)) = true := decide_eq_true c13
                    clear c13
                    by_cases c15 : x5_1.length < 17592186044416
                    · rw [if_pos c15] at H
                      have LMc15 := Aside0.mk c15
                      clear c15
                      obtain ⟨y323, hy323⟩ : ∃ y_ : List Int, y_ = (x5_1 ++ [wrap64 (bt a0 (ji11))]) := ⟨_, rfl⟩
                      replace H : (abugidaref08_May.l0 k1 a0 t314 y319 y323 (wrap64 (x7_1 + 1))) = some r := by first | (rw [hy323]; with_reducible exact H) | (have H2_ := (Option.bind_some _ _).symm.trans H; rw [hy323]; with_reducible exact H2_) | (have H2_ := (Option.bind_some _ _).symm.trans H; with_reducible exact H2_) | with_reducible exact H | (rw [hy323]; exact H) | exact H
                      have Ny323 := Aside0.mk hy323
                      clear hy323
                      have H' := Aside0.mk H
                      clear H
                      obtain ⟨Ao16, co16, eo16⟩ := Kd.R_slice HO_3.out
                      subst eo16
                      have p317 : 0 ≤ (x7_1 : Int) := of_decide_eq_true (by first | (with_reducible assumption) | assumption)
                      have q317 : x7_1 < (t314.length : Int) := of_decide_eq_true (by first | (with_reducible assumption) | assumption)
                      obtain ⟨ad317, e317, hx317_0, hx317_1⟩ := at_T33 (Kd.R_reads' HO_3.out).2.2 x7_1 p317 q317
                      cases e317
                      replace p317 := eq_true p317
                      replace q317 := eq_true q317
                      go_wp2_with (first | ((with_reducible refine gate_callee (f := 28) rfl ?_); refine goesL_ (some 24) rfl rfl Try.func28 (by kernel_rfl) rfl #[.string a0, .agg #[.int .i64 ((rd_T33 t314 x7_1).f0), .int .i64 ((rd_T33 t314 x7_1).f1)]] rfl (by (try simp only [List.map_toArray, List.map_cons, List.map_nil]); first | done | rfl | (simp only [List.length_drop, List.length_take]; rfl)) ?_; (with_reducible refine (abugidaref06_Base.calls k1 a0 ((rd_T33 t314 x7_1).f0) ((rd_T33 t314 x7_1).f1) t318 _ A6.out).mono ?_); rintro e w17 ⟨rfl, hb⟩; refine ⟨_, rfl, ?_⟩; have n0_ := Aside0.mk (Kd.R_below (by (with_reducible repeat (first | apply Kd.R_alloc | apply Kd.R_drewN | apply Kd.R_drew)); exact HO_3.out) hb); have n1_ := Aside0.mk (Kd.R_below (by (with_reducible repeat (first | apply Kd.R_alloc | apply Kd.R_drewN | apply Kd.R_drew)); exact HO_4.out) hb); have n2_ := Aside0.mk (Kd.R_below (by (with_reducible repeat (first | apply Kd.R_alloc | apply Kd.R_drewN | apply Kd.R_drew)); exact HO_5.out) hb); have n3_ := Aside0.mk (below_step (by repeat (first | (with_reducible first | exact HB.out | apply below_alloc | apply pw_below_drewN | apply below_drew1) | exact HB.out)) hb); clear HO_3; clear HO_4; clear HO_5; clear HB; have HO_3 := n0_; have HO_4 := n1_; have HO_5 := n2_; have HB := n3_; clear n0_ n1_ n2_ n3_; (try clear hb); (try clear hb2); (try clear hk); (try clear hi); have p9 : 0 ≤ (t318 : Int) := of_decide_eq_true (by first | (with_reducible assumption) | assumption); have q9 : t318 < (a0.size : Int) := of_decide_eq_true (by first | (with_reducible assumption) | assumption); have hx9 := bt_at a0 t318; replace p9 := eq_true p9; replace q9 := eq_true q9) | ((with_reducible refine gate_builtin (b := .append) (xs := #[.tmp 17, .tmp 27]) rfl ?_); at_builtin; refine Kd.R_append (Kd.int .i64) (w0 := w) w.heap.size rfl (.tmp 17) (.tmp 27) 22 3 (.int .i64 0) 8 rfl Try.underlying22 info3 rfl (by decide) (by omega) u4 x4_1 (wrap64 (bt a0 t318)) [.int .i64 (wrap64 (bt a0 t318))] (fun k_ => some k_ ≠ (u5 : Value).ownBlock) (fun _ => False) rfl rfl ?aP (fun _ hk => hk.elim) ?aF ?aO ?aB ?aS ?aL ?_; (case aP => exact rfl); (case aB => exact (by repeat (first | (with_reducible first | exact HB.out | apply below_alloc | apply pw_below_drewN | apply below_drew1) | exact HB.out))); (case aF => exact (fun k_ hk => Kd.fresh' (Kd.R_lt (by (with_reducible repeat (first | apply Kd.R_alloc | apply Kd.R_drewN | apply Kd.R_drew)); exact HO_5.out)) k_ hk)); (case aO => exact (by (with_reducible repeat (first | apply Kd.R_alloc | apply Kd.R_drewN | apply Kd.R_drew)); exact HO_4.out)); (case aS => exact (below_size (by repeat (first | (with_reducible first | exact HB.out | apply below_alloc | apply pw_below_drewN | apply below_drew1) | exact HB.out)))); (case aL => have := LMc10.out; omega); intro v320 w18 ho hb hg hat; rw [← Ny319.out] at ho; have n0_ := Aside0.mk (Kd.R_over' (by (with_reducible repeat (first | apply Kd.R_alloc | apply Kd.R_drewN | apply Kd.R_drew)); exact HO_3.out) (Kd.R_typed (by (with_reducible repeat (first | apply Kd.R_alloc | apply Kd.R_drewN | apply Kd.R_drew)); exact HO_4.out)) (by decide) hg); have n1_ := Aside0.mk (Kd.R_after (ok := (fun _ => True)) (by (with_reducible repeat (first | apply Kd.R_alloc | apply Kd.R_drewN | apply Kd.R_drew)); exact Kd.R_mono HO_5.out (fun _ hk => ⟨trivial, hk⟩)) hg hat); have n2_ := Aside0.mk (hb); have n3_ := Aside0.mk (ho); clear HO_3; clear HO_5; clear HB; clear HO_4; have HO_3 := n0_; have HO_5 := n1_; have HB := n2_; have HO321 := n3_; clear n0_ n1_ n2_ n3_; clear ho hb hg hat; have p322 : 0 ≤ (x7_1 : Int) := of_decide_eq_true (by first | (with_reducible assumption) | assumption); have q322 : x7_1 < (t314.length : Int) := of_decide_eq_true (by first | (with_reducible assumption) | assumption); obtain ⟨ad322, e322, hx322_0, hx322_1⟩ := at_T33 (Kd.R_reads' HO_3.out).2.2 x7_1 p322 q322; obtain rfl : ad317 = ad322 := (by injection e322); replace p322 := eq_true p322; replace q322 := eq_true q322; have p14 : 0 ≤ ((ji11) : Int) := of_decide_eq_true (by first | (with_reducible assumption) | assumption); have q14 : (ji11) < (a0.size : Int) := of_decide_eq_true (by first | (with_reducible assumption) | assumption); have hx14 := bt_at a0 (ji11); replace p14 := eq_true p14; replace q14 := eq_true q14) | ((with_reducible refine gate_builtin (b := .append) (xs := #[.tmp 29, .tmp 39]) rfl ?_); at_builtin; refine Kd.R_append (Kd.int .i64) (w0 := w) w.heap.size rfl (.tmp 29) (.tmp 39) 22 3 (.int .i64 0) 8 rfl Try.underlying22 info3 rfl (by decide) (by omega) u5 x5_1 (wrap64 (bt a0 (ji11))) [.int .i64 (wrap64 (bt a0 (ji11)))] (fun k_ => some k_ ≠ (v320 : Value).ownBlock) (fun _ => False) rfl rfl ?aP (fun _ hk => hk.elim) ?aF ?aO ?aB ?aS ?aL ?_; (case aP => exact rfl); (case aB => exact (by repeat (first | (with_reducible first | exact HB.out | apply below_alloc | apply pw_below_drewN | apply below_drew1) | exact HB.out))); (case aF => exact (fun k_ hk => Kd.fresh' (Kd.R_lt (by (with_reducible repeat (first | apply Kd.R_alloc | apply Kd.R_drewN | apply Kd.R_drew)); exact HO321.out)) k_ hk)); (case aO => exact (by (with_reducible repeat (first | apply Kd.R_alloc | apply Kd.R_drewN | apply Kd.R_drew)); exact Kd.R_mono HO_5.out (fun _ hk => hk.2))); (case aS => exact (below_size (by repeat (first | (with_reducible first | exact HB.out | apply below_alloc | apply pw_below_drewN | apply below_drew1) | exact HB.out)))); (case aL => have := LMc15.out; omega); intro v324 w19 ho hb hg hat; rw [← Ny323.out] at ho; have n0_ := Aside0.mk (Kd.R_over' (by (with_reducible repeat (first | apply Kd.R_alloc | apply Kd.R_drewN | apply Kd.R_drew)); exact HO_3.out) (Kd.R_typed (by (with_reducible repeat (first | apply Kd.R_alloc | apply Kd.R_drewN | apply Kd.R_drew)); exact HO_5.out)) (by decide) hg); have n1_ := Aside0.mk (Kd.R_after (ok := (fun _ => True)) (by (with_reducible repeat (first | apply Kd.R_alloc | apply Kd.R_drewN | apply Kd.R_drew)); exact Kd.R_mono HO321.out (fun _ hk => ⟨trivial, hk⟩)) hg hat); have n2_ := Aside0.mk (hb); have n3_ := Aside0.mk (ho); clear HO_3; clear HO321; clear HB; clear HO_5; have HO_3 := n0_; have HO321 := n1_; have HB := n2_; have HO325 := n3_; clear n0_ n1_ n2_ n3_; clear ho hb hg hat))
                      go_roundg k1
                      case measure => have := HK1.out; omega
                      case rel => exact ⟨(y319), (y323), (wrap64 (x7_1 + 1)), (by first | rfl | (simp; done) | (simp [*]; done)), H', ⟨by have := HK1.out; omega⟩, ⟨by (with_reducible repeat (first | apply Kd.R_alloc | apply Kd.R_drewN | apply Kd.R_drew)); exact HO_3.out⟩, ⟨by (with_reducible repeat (first | apply Kd.R_alloc | apply Kd.R_drewN | apply Kd.R_drew)); exact Kd.R_mono HO321.out (fun _ hk => hk.2)⟩, ⟨by (with_reducible repeat (first | apply Kd.R_alloc | apply Kd.R_drewN | apply Kd.R_drew)); exact HO325.out⟩, ⟨by repeat (first | (with_reducible first | exact HB.out | apply below_alloc | apply pw_below_drewN | apply below_drew1) | exact HB.out)⟩⟩
                    · rw [if_neg c15] at H
                      exact absurd H (by simp)
                  · rw [if_neg c13] at H
                    exact absurd H (by simp)
                · rw [if_neg c12] at H
                  exact absurd H (by simp)
              · rw [if_neg c10] at H
                exact absurd H (by simp)
            · rw [if_neg c8] at H
              exact absurd H (by simp)
          · rw [if_neg c7] at H
            exact absurd H (by simp)
        · rw [if_neg c5] at H
          exact absurd H (by simp)
      · rw [if_neg c4] at H
        have c4b0 : decide (x7_1 < (t314.length : Int)) = false := decide_eq_false c4
        clear c4
        have H' := Aside0.mk H
        clear H
        obtain ⟨Ao20, co20, eo20⟩ := Kd.R_slice HO_3.out
        subst eo20
        go_wp2
        go_loopg [6, 8] k1 (fun kq v6 v8 w' => ∃ (x6_2 : List Int) (x8_2 : Int), v8 = .int .i64 x8_2 ∧ Aside0 (abugidaref08_May.l1 kq t314 x4_1 x5_1 x6_2 x8_2 = some r) ∧ Aside0 (kq ≤ k1) ∧ Aside0 (Kd.R k33 33 w' w.heap.size (fun _ => True) (.slice Ao20 t314.length co20) t314) ∧ Aside0 (Kd.R (Kd.int .i64) 3 w' w.heap.size (fun k_ => some k_ ≠ (u5 : Value).ownBlock ∧ some k_ ≠ (v6 : Value).ownBlock) u4 x4_1) ∧ Aside0 (Kd.R (Kd.int .i64) 3 w' w.heap.size (fun k_ => some k_ ≠ (u4 : Value).ownBlock ∧ some k_ ≠ (v6 : Value).ownBlock) u5 x5_1) ∧ Aside0 (Kd.R (Kd.int .i64) 3 w' w.heap.size (fun k_ => some k_ ≠ (u4 : Value).ownBlock ∧ some k_ ≠ (u5 : Value).ownBlock) v6 x6_2) ∧ Aside0 (Below w.heap.size w w'))
        case atStart => exact ⟨(([] : List Int)), (0), (by first | rfl | (simp; done) | (simp [*]; done)), H', ⟨Nat.le_refl _⟩, ⟨by (with_reducible repeat (first | apply Kd.R_alloc | apply Kd.R_drewN | apply Kd.R_drew)); exact HO_3.out⟩, ⟨by (with_reducible repeat (first | apply Kd.R_alloc | apply Kd.R_drewN | apply Kd.R_drew)); exact Kd.R_mono HO_4.out (fun _ hk => ⟨hk, (by simp [Value.ownBlock])⟩)⟩, ⟨by (with_reducible repeat (first | apply Kd.R_alloc | apply Kd.R_drewN | apply Kd.R_drew)); exact Kd.R_mono HO_5.out (fun _ hk => ⟨hk, (by simp [Value.ownBlock])⟩)⟩, ⟨by first | exact Kd.R_nil _ _ _ _ _ | exact Kd.N_nil _ _ _ _ _ | exact Kd.V_nil _ _ _ _ _ | exact Kd.Q_nil _ _ _ _ _ | exact Kd.S_nil _ _ _ _ _⟩, ⟨by repeat (first | (with_reducible first | exact HB.out | apply below_alloc | apply pw_below_drewN | apply below_drew1) | exact HB.out)⟩⟩
        case round =>
          clear H'
          try clear c1
          try clear p1
          try clear q1
          try clear hx1
          try clear c2
          try clear p2
          try clear p3
          try clear q3
          try clear hx3
          try clear c4
          try clear c4b0
          try clear c5
          try clear c5b0
          try clear p6
          try clear c7
          try clear c7b0
          try clear c8
          try clear c8b0
          try clear p9
          try clear q9
          try clear hx9
          try clear c10
          try clear c12
          try clear c12b0
          try clear c13
          try clear c13b0
          try clear p14
          try clear q14
          try clear hx14
          try clear c15
          try clear hx317_0
          try clear hx317_1
          try clear hx322_0
          try clear hx322_1
          try clear p14
          try clear p2
          try clear p317
          try clear p322
          try clear p9
          try clear q14
          try clear q317
          try clear q322
          try clear q9
          obtain ⟨x6_2, x8_2, rfl, HA, HK2, HO_3, HO_4, HO_5, HO_6, HB⟩ := hrel
          cases gk with
          | zero => exact absurd HA.out (by simp [abugidaref08_May.l1])
          | succ k2 =>
            have H := HA.out
            clear HA
            simp only [abugidaref08_May.l1] at H
            by_cases c21 : x8_2 < (t314.length : Int)
            · rw [if_pos c21] at H
              have c21b0 : decide (x8_2 < (t314.length : Int)) = true := decide_eq_true c21
              clear c21
              replace H := Option.bind_eq_some_iff.mp H
              obtain ⟨t326, A220, H⟩ := H
              replace H : (if x6_2.length < 17592186044416 then (abugidaref08_May.l1 k2 t314 x4_1 x5_1 (x6_2 ++ [t326]) (wrap64 (x8_2 + 1))) else (none)) = some r := H
              have A22 := Aside0.mk A220
              clear A220
              by_cases c23 : x6_2.length < 17592186044416
              · rw [if_pos c23] at H
                have LMc23 := Aside0.mk c23
                clear c23
                obtain ⟨y327, hy327⟩ : ∃ y_ : List Int, y_ = (x6_2 ++ [t326]) := ⟨_, rfl⟩
                replace H : (abugidaref08_May.l1 k2 t314 x4_1 x5_1 y327 (wrap64 (x8_2 + 1))) = some r := by first | (rw [hy327]; with_reducible exact H) | (have H2_ := (Option.bind_some _ _).symm.trans H; rw [hy327]; with_reducible exact H2_) | (have H2_ := (Option.bind_some _ _).symm.trans H; with_reducible exact H2_) | with_reducible exact H | (rw [hy327]; exact H) | exact H
                have Ny327 := Aside0.mk hy327
                clear hy327
                have H' := Aside0.mk H
                clear H
                obtain ⟨Ao24, co24, eo24⟩ := Kd.R_slice HO_4.out
                subst eo24
                obtain ⟨Ao25, co25, eo25⟩ := Kd.R_slice HO_5.out
                subst eo25
                go_wp2_with (first | ((with_reducible refine gate_callee (f := 29) rfl ?_); refine goesL_ (some 51) rfl rfl Try.func29 (by kernel_rfl) rfl #[.slice Ao24 x4_1.length co24, .slice Ao25 x5_1.length co25, .int .i64 x8_2] rfl (by (try simp only [List.map_toArray, List.map_cons, List.map_nil]); first | done | rfl | (simp only [List.length_drop, List.length_take]; rfl)) ?_; (with_reducible refine (abugidaref08_may.calls k2 _ _ x4_1 _ _ x5_1 x8_2 t326 _ ?side1 ?side2 ?side3 ?side4 A22.out).mono ?_); (case side1 => repeat (first | exact (Kd.R_reads' HO_4.out).2.2 | (with_reducible refine Kd.C_alloc ?_ _) | (with_reducible refine Kd.C_drewN ?_ _) | (with_reducible refine Kd.C_drew ?_))); (case side2 => exact (Kd.R_reads' HO_4.out).2.1); (case side3 => repeat (first | exact (Kd.R_reads' HO_5.out).2.2 | (with_reducible refine Kd.C_alloc ?_ _) | (with_reducible refine Kd.C_drewN ?_ _) | (with_reducible refine Kd.C_drew ?_))); (case side4 => exact (Kd.R_reads' HO_5.out).2.1); rintro e w' ⟨rfl, ⟨nd, rfl⟩⟩; refine ⟨_, rfl, ?_⟩) | ((with_reducible refine gate_builtin (b := .append) (xs := #[.tmp 47, .tmp 52]) rfl ?_); at_builtin; refine Kd.R_append (Kd.int .i64) (w0 := w) w.heap.size rfl (.tmp 47) (.tmp 52) 22 3 (.int .i64 0) 8 rfl Try.underlying22 info3 rfl (by decide) (by omega) u6 x6_2 t326 [.int .i64 t326] (fun k_ => some k_ ≠ (.slice Ao24 x4_1.length co24 : Value).ownBlock ∧ some k_ ≠ (.slice Ao25 x5_1.length co25 : Value).ownBlock) (fun _ => False) rfl rfl ?aP (fun _ hk => hk.elim) ?aF ?aO ?aB ?aS ?aL ?_; (case aP => exact rfl); (case aB => exact (by repeat (first | (with_reducible first | exact HB.out | apply below_alloc | apply pw_below_drewN | apply below_drew1) | exact HB.out))); (case aF => exact (fun k_ hk => ⟨Kd.fresh' (Kd.R_lt (by (with_reducible repeat (first | apply Kd.R_alloc | apply Kd.R_drewN | apply Kd.R_drew)); exact HO_4.out)) k_ hk, Kd.fresh' (Kd.R_lt (by (with_reducible repeat (first | apply Kd.R_alloc | apply Kd.R_drewN | apply Kd.R_drew)); exact HO_5.out)) k_ hk⟩)); (case aO => exact (by (with_reducible repeat (first | apply Kd.R_alloc | apply Kd.R_drewN | apply Kd.R_drew)); exact HO_6.out)); (case aS => exact (below_size (by repeat (first | (with_reducible first | exact HB.out | apply below_alloc | apply pw_below_drewN | apply below_drew1) | exact HB.out)))); (case aL => have := LMc23.out; omega); intro v328 w26 ho hb hg hat; rw [← Ny327.out] at ho; have n0_ := Aside0.mk (Kd.R_over' (by (with_reducible repeat (first | apply Kd.R_alloc | apply Kd.R_drewN | apply Kd.R_drew)); exact HO_3.out) (Kd.R_typed (by (with_reducible repeat (first | apply Kd.R_alloc | apply Kd.R_drewN | apply Kd.R_drew)); exact HO_6.out)) (by decide) hg); have n1_ := Aside0.mk (Kd.R_after (ok := (fun k_ => some k_ ≠ (.slice Ao25 x5_1.length co25 : Value).ownBlock)) (by (with_reducible repeat (first | apply Kd.R_alloc | apply Kd.R_drewN | apply Kd.R_drew)); exact HO_4.out) hg hat); have n2_ := Aside0.mk (Kd.R_after (ok := (fun k_ => some k_ ≠ (.slice Ao24 x4_1.length co24 : Value).ownBlock)) (by (with_reducible repeat (first | apply Kd.R_alloc | apply Kd.R_drewN | apply Kd.R_drew)); exact HO_5.out) hg hat); have n3_ := Aside0.mk (hb); have n4_ := Aside0.mk (ho); clear HO_3; clear HO_4; clear HO_5; clear HB; clear HO_6; have HO_3 := n0_; have HO_4 := n1_; have HO_5 := n2_; have HB := n3_; have HO329 := n4_; clear n0_ n1_ n2_ n3_ n4_; clear ho hb hg hat))
                go_roundg k2
                case measure => have := HK1.out; have := HK2.out; omega
                case rel => exact ⟨(y327), (wrap64 (x8_2 + 1)), (by first | rfl | (simp; done) | (simp [*]; done)), H', ⟨by have := HK1.out; have := HK2.out; omega⟩, ⟨by (with_reducible repeat (first | apply Kd.R_alloc | apply Kd.R_drewN | apply Kd.R_drew)); exact HO_3.out⟩, ⟨by (with_reducible repeat (first | apply Kd.R_alloc | apply Kd.R_drewN | apply Kd.R_drew)); exact HO_4.out⟩, ⟨by (with_reducible repeat (first | apply Kd.R_alloc | apply Kd.R_drewN | apply Kd.R_drew)); exact HO_5.out⟩, ⟨by (with_reducible repeat (first | apply Kd.R_alloc | apply Kd.R_drewN | apply Kd.R_drew)); exact HO329.out⟩, ⟨by repeat (first | (with_reducible first | exact HB.out | apply below_alloc | apply pw_below_drewN | apply below_drew1) | exact HB.out)⟩⟩
              · rw [if_neg c23] at H
                exact absurd H (by simp)
            · rw [if_neg c21] at H
              have c21b0 : decide (x8_2 < (t314.length : Int)) = false := decide_eq_false c21
              clear c21
              obtain rfl := Option.some.inj H
              go_wp2
              go_ret
              exact ⟨_, by first | rfl | (simp [errW_none, errW_some] <;> rfl) | (simp [*, errW_none, errW_some] <;> rfl), by (with_reducible repeat (first | apply Kd.R_alloc | apply Kd.R_drewN | apply Kd.R_drew)); exact Kd.R_mono HO_6.out (fun _ hk => trivial), by repeat (first | (with_reducible first | exact HB.out | apply below_alloc | apply pw_below_drewN | apply below_drew1) | exact HB.out)⟩

end Go.Proofs.Ythllgpjjjegenaa.Q

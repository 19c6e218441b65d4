-- Written by wip/tools/myprint.py, a program of this session that drives the kit's print.py; not a text of print.sh.
import Derived.Test.YtacnckneiklgpaaQx0
import Derived.Test.YtacnckneiklgpaaQx15
import Derived.Test.YtacnckneiklgpaaQx16
import Derived.Test.YtacnckneiklgpaaQx17
namespace Go.Proofs.Ytacnckneiklgpaa.Q
open Go.RowKit Go.Proofs.YtacnckneiklgpaaW.PrintWords Go.Proofs.YtacnckneiklgpaaW.PrintLast Go.Proofs.YtacnckneiklgpaaW.PrintMore
attribute [local go_sem] max2_int min2_int max_two min_two max_three min_three max_four min_four   -- for this text's walks alone
set_option linter.unusedVariables false
set_option linter.unusedSimpArgs false

/-! ### abugidaref07_Levels: function 15 -/
mutual
def abugidaref07_Levels.l0 : Nat → List Int → List Int → Int → List Int → Int → Option (List Int)
  | 0, _, _, _, _, _ => none
  | k + 1, x3, x4, x5, x6, x7 => if x7 < (x3.length : Int) then (if 0 ≤ x7 then (if x7 < (x4.length : Int) then (if (rd x4 x7) = 2 then (abugidaref07_Levels.j1 k x3 x4 x5 x6 x7 0 ((rd x3 x7) != 3)) else (abugidaref07_Levels.j1 k x3 x4 x5 x6 x7 0 false)) else (none)) else (none)) else (some x6)
def abugidaref07_Levels.j1 : Nat → List Int → List Int → Int → List Int → Int → Int → Bool → Option (List Int)
  | 0, _, _, _, _, _, _, _ => none
  | k + 1, x3, x4, x5, x6, x7, x8, x32 => if x32 = true then (if 0 ≤ x7 then (if x7 < (x4.length : Int) then (if (rd x4 x7) = 2 then (if x7 < (x3.length : Int) then (if (rd x3 x7) = 3 then (if x6.length < 17592186044416 then (abugidaref07_Levels.l0 k x3 x4 x5 (x6 ++ [2]) (wrap64 (x7 + 1))) else (none)) else (if (rd x4 x7) = 1 then (if x5 = 2 then (if x6.length < 17592186044416 then (abugidaref07_Levels.l0 k x3 x4 x5 (x6 ++ [2]) (wrap64 (x7 + 1))) else (none)) else (if x6.length < 17592186044416 then (abugidaref07_Levels.l0 k x3 x4 x5 (x6 ++ [1]) (wrap64 (x7 + 1))) else (none))) else (if x6.length < 17592186044416 then (abugidaref07_Levels.l0 k x3 x4 x5 (x6 ++ [1]) (wrap64 (x7 + 1))) else (none)))) else (none)) else (if (rd x4 x7) = 1 then (if x5 = 2 then (if x6.length < 17592186044416 then (abugidaref07_Levels.l0 k x3 x4 x5 (x6 ++ [2]) (wrap64 (x7 + 1))) else (none)) else (if x6.length < 17592186044416 then (abugidaref07_Levels.l0 k x3 x4 x5 (x6 ++ [1]) (wrap64 (x7 + 1))) else (none))) else (if x6.length < 17592186044416 then (abugidaref07_Levels.l0 k x3 x4 x5 (x6 ++ [1]) (wrap64 (x7 + 1))) else (none)))) else (none)) else (none)) else (if 0 ≤ x7 then (if x7 < (x4.length : Int) then (if (rd x4 x7) = 2 then (if x7 < (x3.length : Int) then (if (rd x3 x7) = 3 then (if x6.length < 17592186044416 then (abugidaref07_Levels.l0 k x3 x4 x5 (x6 ++ [2]) (wrap64 (x7 + 1))) else (none)) else (if (rd x4 x7) = 1 then (if x5 = 2 then (if x6.length < 17592186044416 then (abugidaref07_Levels.l0 k x3 x4 x5 (x6 ++ [2]) (wrap64 (x7 + 1))) else (none)) else (if x6.length < 17592186044416 then (abugidaref07_Levels.l0 k x3 x4 x5 (x6 ++ [x8]) (wrap64 (x7 + 1))) else (none))) else (if x6.length < 17592186044416 then (abugidaref07_Levels.l0 k x3 x4 x5 (x6 ++ [x8]) (wrap64 (x7 + 1))) else (none)))) else (none)) else (if (rd x4 x7) = 1 then (if x5 = 2 then (if x6.length < 17592186044416 then (abugidaref07_Levels.l0 k x3 x4 x5 (x6 ++ [2]) (wrap64 (x7 + 1))) else (none)) else (if x6.length < 17592186044416 then (abugidaref07_Levels.l0 k x3 x4 x5 (x6 ++ [x8]) (wrap64 (x7 + 1))) else (none))) else (if x6.length < 17592186044416 then (abugidaref07_Levels.l0 k x3 x4 x5 (x6 ++ [x8]) (wrap64 (x7 + 1))) else (none)))) else (none)) else (none))
end
def abugidaref07_Levels.f (k : Nat) (a0 : ByteArray) : Option (List Int) := (abugidaref07_Kinds.f k a0).bind fun t281 => ((abugidaref07_Directions.f k a0).bind fun t284 => ((abugidaref07_Base.f k a0).bind fun t287 => (abugidaref07_Levels.l0 k t281 t284 t287 ([] : List Int) 0)))
theorem abugidaref07_Levels.mono_l : ∀ k, (∀ y0 y1 y2 y3 y4, LeO (abugidaref07_Levels.l0 k y0 y1 y2 y3 y4) (abugidaref07_Levels.l0 (k + 1) y0 y1 y2 y3 y4)) ∧ (∀ y0 y1 y2 y3 y4 y5 y6, LeO (abugidaref07_Levels.j1 k y0 y1 y2 y3 y4 y5 y6) (abugidaref07_Levels.j1 (k + 1) y0 y1 y2 y3 y4 y5 y6))
  | 0 => ⟨fun _ _ _ _ _ r h => by simp [abugidaref07_Levels.l0] at h, fun _ _ _ _ _ _ _ r h => by simp [abugidaref07_Levels.j1] at h⟩
  | k + 1 => by
    obtain ⟨ih0, ih1⟩ := abugidaref07_Levels.mono_l k
    refine ⟨?_, ?_⟩
    · intro y0 y1 y2 y3 y4
      unfold abugidaref07_Levels.l0
      repeat' first
      | (with_reducible exact ih0 _ _ _ _ _)
      | (with_reducible exact ih1 _ _ _ _ _ _ _)
      | (with_reducible exact abugidaref07_Base.mono _ _)
      | (with_reducible exact abugidaref07_Directions.mono _ _)
      | (with_reducible exact abugidaref07_Kinds.mono _ _)
      | (with_reducible exact LeO.refl _)
      | (with_reducible exact LeO.none _)
      | (with_reducible refine LeO.ite ?_ ?_)
      | (with_reducible refine LeO.bind ?_ (fun _ => ?_))
      | exact ih0 _ _ _ _ _
      | exact ih1 _ _ _ _ _ _ _
      | exact abugidaref07_Base.mono _ _
      | exact abugidaref07_Directions.mono _ _
      | exact abugidaref07_Kinds.mono _ _
      | exact LeO.none _
      | refine LeO.ite ?_ ?_
      | refine LeO.bind ?_ (fun _ => ?_)
    · intro y0 y1 y2 y3 y4 y5 y6
      unfold abugidaref07_Levels.j1
      repeat' first
      | (with_reducible exact ih0 _ _ _ _ _)
      | (with_reducible exact ih1 _ _ _ _ _ _ _)
      | (with_reducible exact abugidaref07_Base.mono _ _)
      | (with_reducible exact abugidaref07_Directions.mono _ _)
      | (with_reducible exact abugidaref07_Kinds.mono _ _)
      | (with_reducible exact LeO.refl _)
      | (with_reducible exact LeO.none _)
      | (with_reducible refine LeO.ite ?_ ?_)
      | (with_reducible refine LeO.bind ?_ (fun _ => ?_))
      | exact ih0 _ _ _ _ _
      | exact ih1 _ _ _ _ _ _ _
      | exact abugidaref07_Base.mono _ _
      | exact abugidaref07_Directions.mono _ _
      | exact abugidaref07_Kinds.mono _ _
      | exact LeO.none _
      | refine LeO.ite ?_ ?_
      | refine LeO.bind ?_ (fun _ => ?_)
theorem abugidaref07_Levels.mono : ∀ a0 k, LeO (abugidaref07_Levels.f k a0) (abugidaref07_Levels.f (k + 1) a0) := by
  intro a0 k
  obtain ⟨ih0, ih1⟩ := abugidaref07_Levels.mono_l k
  unfold abugidaref07_Levels.f
  repeat' first
      | (with_reducible exact ih0 _ _ _ _ _)
      | (with_reducible exact ih1 _ _ _ _ _ _ _)
      | (with_reducible exact abugidaref07_Base.mono _ _)
      | (with_reducible exact abugidaref07_Directions.mono _ _)
      | (with_reducible exact abugidaref07_Kinds.mono _ _)
      | (with_reducible exact LeO.refl _)
      | (with_reducible exact LeO.none _)
      | (with_reducible refine LeO.ite ?_ ?_)
      | (with_reducible refine LeO.bind ?_ (fun _ => ?_))
      | exact ih0 _ _ _ _ _
      | exact ih1 _ _ _ _ _ _ _
      | exact abugidaref07_Base.mono _ _
      | exact abugidaref07_Directions.mono _ _
      | exact abugidaref07_Kinds.mono _ _
      | exact LeO.none _
      | refine LeO.ite ?_ ?_
      | refine LeO.bind ?_ (fun _ => ?_)
set_option maxHeartbeats 8000000 in
set_option maxRecDepth 100000 in
theorem abugidaref07_Levels.calls (k : Nat) (a0 : ByteArray) (r : List Int) (w : World) (h : abugidaref07_Levels.f k a0 = some r) :
    Calls Try.prog 15 #[.string a0] w fun e w' => ∃ v0_ : Value, e = .returned (v0_) ∧ Kd.R (Kd.int .i64) 3 w' w.heap.size (fun _ => True) v0_ r ∧ Below w.heap.size w w' := by
  have HB := Aside0.mk (Below.refl w.heap.size w)
  have H : ((abugidaref07_Kinds.f k a0).bind fun t281 => ((abugidaref07_Directions.f k a0).bind fun t284 => ((abugidaref07_Base.f k a0).bind fun t287 => (abugidaref07_Levels.l0 k t281 t284 t287 ([] : List Int) 0)))) = some r := h
  clear h
  replace H := Option.bind_eq_some_iff.mp H
  obtain ⟨t281, A20, H⟩ := H
  replace H : ((abugidaref07_Directions.f k a0).bind fun t284 => ((abugidaref07_Base.f k a0).bind fun t287 => (abugidaref07_Levels.l0 k t281 t284 t287 ([] : List Int) 0))) = some r := H
  have A2 := Aside0.mk A20
  clear A20
  replace H := Option.bind_eq_some_iff.mp H
  obtain ⟨t284, A30, H⟩ := H
  replace H : ((abugidaref07_Base.f k a0).bind fun t287 => (abugidaref07_Levels.l0 k t281 t284 t287 ([] : List Int) 0)) = some r := H
  have A3 := Aside0.mk A30
  clear A30
  replace H := Option.bind_eq_some_iff.mp H
  obtain ⟨t287, A40, H⟩ := H
  replace H : (abugidaref07_Levels.l0 k t281 t284 t287 ([] : List Int) 0) = some r := H
  have A4 := Aside0.mk A40
  clear A40
  have H' := Aside0.mk H
  clear H
  go_enter Try.func15, Try.ntmps15
  go_wp2_with (first | ((with_reducible refine gate_callee (f := 32) rfl ?_); refine goesL_ (some 10) rfl rfl Try.func32 (by kernel_rfl) rfl #[.string a0] rfl (by (try simp only [List.map_toArray, List.map_cons, List.map_nil]); first | done | rfl | (simp only [List.length_drop, List.length_take]; rfl)) ?_; (with_reducible refine (abugidaref07_Kinds.calls k a0 t281 _ A2.out).mono ?_); rintro e w5 ⟨v282, rfl, ho0, hb⟩; refine ⟨_, rfl, ?_⟩; have n0_ := Aside0.mk (Kd.R_lower ho0 (below_size (by repeat (first | (with_reducible first | exact HB.out | apply below_alloc | apply pw_below_drewN | apply below_drew1) | exact HB.out)))); have n1_ := Aside0.mk (below_step (by repeat (first | (with_reducible first | exact HB.out | apply below_alloc | apply pw_below_drewN | apply below_drew1) | exact HB.out)) hb); clear HB; have HO283 := n0_; have HB := n1_; clear n0_ n1_; (try clear hb); (try clear hb2); (try clear hk); (try clear hi); (try clear ho0)) | ((with_reducible refine gate_callee (f := 33) rfl ?_); refine goesL_ (some 12) rfl rfl Try.func33 (by kernel_rfl) rfl #[.string a0] rfl (by (try simp only [List.map_toArray, List.map_cons, List.map_nil]); first | done | rfl | (simp only [List.length_drop, List.length_take]; rfl)) ?_; (with_reducible refine (abugidaref07_Directions.calls k a0 t284 _ A3.out).mono ?_); rintro e w6 ⟨v285, rfl, ho0, hb⟩; refine ⟨_, rfl, ?_⟩; have n0_ := Aside0.mk (Kd.R_elder' (by (with_reducible repeat (first | apply Kd.R_alloc | apply Kd.R_drewN | apply Kd.R_drew)); exact HO283.out) (Kd.R_base ho0) hb); have n1_ := Aside0.mk (Kd.R_lower (Kd.R_new' ho0 (Kd.R_lt (by (with_reducible repeat (first | apply Kd.R_alloc | apply Kd.R_drewN | apply Kd.R_drew)); exact HO283.out))) (below_size (by repeat (first | (with_reducible first | exact HB.out | apply below_alloc | apply pw_below_drewN | apply below_drew1) | exact HB.out)))); have n2_ := Aside0.mk (below_step (by repeat (first | (with_reducible first | exact HB.out | apply below_alloc | apply pw_below_drewN | apply below_drew1) | exact HB.out)) hb); clear HO283; clear HB; have HO283 := n0_; have HO286 := n1_; have HB := n2_; clear n0_ n1_ n2_; (try clear hb); (try clear hb2); (try clear hk); (try clear hi); (try clear ho0)) | ((with_reducible refine gate_callee (f := 29) rfl ?_); refine goesL_ (some 14) rfl rfl Try.func29 (by kernel_rfl) rfl #[.string a0] rfl (by (try simp only [List.map_toArray, List.map_cons, List.map_nil]); first | done | rfl | (simp only [List.length_drop, List.length_take]; rfl)) ?_; (with_reducible refine (abugidaref07_Base.calls k a0 t287 _ A4.out).mono ?_); rintro e w7 ⟨rfl, hb⟩; refine ⟨_, rfl, ?_⟩; have n0_ := Aside0.mk (Kd.R_below (by (with_reducible repeat (first | apply Kd.R_alloc | apply Kd.R_drewN | apply Kd.R_drew)); exact HO283.out) hb); have n1_ := Aside0.mk (Kd.R_below (by (with_reducible repeat (first | apply Kd.R_alloc | apply Kd.R_drewN | apply Kd.R_drew)); exact HO286.out) hb); have n2_ := Aside0.mk (below_step (by repeat (first | (with_reducible first | exact HB.out | apply below_alloc | apply pw_below_drewN | apply below_drew1) | exact HB.out)) hb); clear HO283; clear HO286; clear HB; have HO283 := n0_; have HO286 := n1_; have HB := n2_; clear n0_ n1_ n2_; (try clear hb); (try clear hb2); (try clear hk); (try clear hi)))
  go_loopg [6, 7] k (fun kq v6 v7 w' => ∃ (x6_1 : List Int) (x7_1 : Int), v7 = .int .i64 x7_1 ∧ Aside0 (abugidaref07_Levels.l0 kq t281 t284 t287 x6_1 x7_1 = some r) ∧ Aside0 (kq ≤ k) ∧ Aside0 (Kd.R (Kd.int .i64) 3 w' w.heap.size (fun k_ => some k_ ≠ (v285 : Value).ownBlock ∧ some k_ ≠ (v6 : Value).ownBlock) v282 t281) ∧ Aside0 (Kd.R (Kd.int .i64) 3 w' w.heap.size (fun k_ => some k_ ≠ (v282 : Value).ownBlock ∧ some k_ ≠ (v6 : Value).ownBlock) v285 t284) ∧ Aside0 (Kd.R (Kd.int .i64) 3 w' w.heap.size (fun k_ => some k_ ≠ (v282 : Value).ownBlock ∧ some k_ ≠ (v285 : Value).ownBlock) v6 x6_1) ∧ Aside0 (Below w.heap.size w w'))
  case atStart => exact ⟨(([] : List Int)), (0), (by first | rfl | (simp; done) | (simp [*]; done)), H', ⟨Nat.le_refl _⟩, ⟨by (with_reducible repeat (first | apply Kd.R_alloc | apply Kd.R_drewN | apply Kd.R_drew)); exact Kd.R_mono HO283.out (fun _ hk => ⟨hk.2, (by simp [Value.ownBlock])⟩)⟩, ⟨by (with_reducible repeat (first | apply Kd.R_alloc | apply Kd.R_drewN | apply Kd.R_drew)); exact Kd.R_mono HO286.out (fun _ hk => ⟨hk.2, (by simp [Value.ownBlock])⟩)⟩, ⟨by first | exact Kd.R_nil _ _ _ _ _ | exact Kd.N_nil _ _ _ _ _ | exact Kd.V_nil _ _ _ _ _ | exact Kd.Q_nil _ _ _ _ _ | exact Kd.S_nil _ _ _ _ _⟩, ⟨by repeat (first | (with_reducible first | exact HB.out | apply below_alloc | apply pw_below_drewN | apply below_drew1) | exact HB.out)⟩⟩
  case round =>
    clear H'
    try clear c1
    try clear c2
    try clear p2
    try clear c3
    obtain ⟨x6_1, x7_1, rfl, HA, HK1, HO_3, HO_4, HO_6, HB⟩ := hrel
    cases gk with
    | zero => exact absurd HA.out (by simp [abugidaref07_Levels.l0])
    | succ k1 =>
      have H := HA.out
      clear HA
      simp only [abugidaref07_Levels.l0] at H
      by_cases c8 : x7_1 < (t281.length : Int)
      · rw [if_pos c8] at H
        have c8b0 : decide (x7_1 < (t281.length : Int)) = true := decide_eq_true c8
        clear c8
        have HC9 := Aside0.mk H
        clear H
        obtain ⟨Ao10, co10, eo10⟩ := Kd.R_slice HO_3.out
        subst eo10
        go_upto_region 9 with (fail)
        go_cut [32] (fun v32 wc => ∃ (kq : Nat) (x32_8 : Bool), v32 = .bool x32_8 ∧ Aside0 (abugidaref07_Levels.j1 kq t281 t284 t287 x6_1 x7_1 0 x32_8 = some r) ∧ Aside0 (kq ≤ k1) ∧ Aside0 (Kd.R (Kd.int .i64) 3 wc w.heap.size (fun k_ => some k_ ≠ (v285 : Value).ownBlock ∧ some k_ ≠ (u6 : Value).ownBlock) (.slice Ao10 t281.length co10) t281) ∧ Aside0 (Kd.R (Kd.int .i64) 3 wc w.heap.size (fun k_ => some k_ ≠ ((.slice Ao10 t281.length co10) : Value).ownBlock ∧ some k_ ≠ (u6 : Value).ownBlock) v285 t284) ∧ Aside0 (Kd.R (Kd.int .i64) 3 wc w.heap.size (fun k_ => some k_ ≠ ((.slice Ao10 t281.length co10) : Value).ownBlock ∧ some k_ ≠ (v285 : Value).ownBlock) u6 x6_1) ∧ Aside0 (Below w.heap.size w wc))
        case first =>
          have H := HC9.out
          clear HC9
          by_cases c11 : 0 ≤ x7_1
          · rw [if_pos c11] at H
            have c11b0 : decide (0 ≤ x7_1) = true := decide_eq_true c11
            clear c11
            (first | rw [c11b0] | (simp only [i64_w, i32_w]; rw [c11b0]) | skip)
            by_cases c12 : x7_1 < (t284.length : Int)
            · rw [if_pos c12] at H
              have c12b0 : decide (x7_1 < (t284.length : Int)) = true := decide_eq_true c12
              clear c12
              by_cases c13 : (rd t284 x7_1) = 2
              · rw [if_pos c13] at H
                have c13b0 : ((rd t284 x7_1) == 2) = true := beq_iff_eq.mpr c13
                have c13b1 : ((rd t284 x7_1) != 2) = false := bne_eq_false_iff_eq.mpr c13
                clear c13
                have H' := Aside0.mk H
                clear H
                obtain ⟨Ao14, co14, eo14⟩ := Kd.R_slice HO_4.out
                subst eo14
                have p288 : 0 ≤ (x7_1 : Int) := of_decide_eq_true (by first | (with_reducible assumption) | assumption)
                have q288 : x7_1 < (t284.length : Int) := of_decide_eq_true (by first | (with_reducible assumption) | assumption)
                obtain ⟨ad288, e288, hx288_0⟩ := Kd.at_int (Kd.R_reads' HO_4.out).2.2 x7_1 p288 q288
                cases e288
                replace p288 := eq_true p288
                replace q288 := eq_true q288
                have p289 : 0 ≤ (x7_1 : Int) := of_decide_eq_true (by first | (with_reducible assumption) | assumption)
                have q289 : x7_1 < (t281.length : Int) := of_decide_eq_true (by first | (with_reducible assumption) | assumption)
                obtain ⟨ad289, e289, hx289_0⟩ := Kd.at_int (Kd.R_reads' HO_3.out).2.2 x7_1 p289 q289
                cases e289
                replace p289 := eq_true p289
                replace q289 := eq_true q289
                go_wp2
                go_meet
                case rel => exact ⟨_, (((rd t281 x7_1) != 3)), (by first | rfl | (simp; done) | (simp [*]; done)), H', ⟨by have := HK1.out; first | omega | exact Nat.le_refl _⟩, ⟨by (with_reducible repeat (first | apply Kd.R_alloc | apply Kd.R_drewN | apply Kd.R_drew)); exact HO_3.out⟩, ⟨by (with_reducible repeat (first | apply Kd.R_alloc | apply Kd.R_drewN | apply Kd.R_drew)); exact HO_4.out⟩, ⟨by (with_reducible repeat (first | apply Kd.R_alloc | apply Kd.R_drewN | apply Kd.R_drew)); exact HO_6.out⟩, ⟨by repeat (first | (with_reducible first | exact HB.out | apply below_alloc | apply pw_below_drewN | apply below_drew1) | exact HB.out)⟩⟩
              · rw [if_neg c13] at H
                have c13b0 : ((rd t284 x7_1) == 2) = false := beq_eq_false_iff_ne.mpr c13
                have c13b1 : ((rd t284 x7_1) != 2) = true := bne_iff_ne.mpr c13
                have H' := Aside0.mk H
                clear H
                obtain ⟨Ao15, co15, eo15⟩ := Kd.R_slice HO_4.out
                subst eo15
                have p288 : 0 ≤ (x7_1 : Int) := of_decide_eq_true (by first | (with_reducible assumption) | assumption)
                have q288 : x7_1 < (t284.length : Int) := of_decide_eq_true (by first | (with_reducible assumption) | assumption)
                obtain ⟨ad288, e288, hx288_0⟩ := Kd.at_int (Kd.R_reads' HO_4.out).2.2 x7_1 p288 q288
                cases e288
                replace p288 := eq_true p288
                replace q288 := eq_true q288
                go_wp2
                go_meet
                case rel => exact ⟨_, (false), (by first | rfl | (simp; done) | (simp [*]; done)), H', ⟨by have := HK1.out; first | omega | exact Nat.le_refl _⟩, ⟨by (with_reducible repeat (first | apply Kd.R_alloc | apply Kd.R_drewN | apply Kd.R_drew)); exact HO_3.out⟩, ⟨by (with_reducible repeat (first | apply Kd.R_alloc | apply Kd.R_drewN | apply Kd.R_drew)); exact HO_4.out⟩, ⟨by (with_reducible repeat (first | apply Kd.R_alloc | apply Kd.R_drewN | apply Kd.R_drew)); exact HO_6.out⟩, ⟨by repeat (first | (with_reducible first | exact HB.out | apply below_alloc | apply pw_below_drewN | apply below_drew1) | exact HB.out)⟩⟩
            · rw [if_neg c12] at H
              exact absurd H (by simp)
          · rw [if_neg c11] at H
            exact absurd H (by simp)
        case rest =>
          clear HC9
          try clear c1
          try clear c2
          try clear p2
          try clear q2
          try clear hx2
          try clear c3
          try clear c8
          try clear c8b0
          try clear c11
          try clear c11b0
          try clear c12
          try clear c12b0
          try clear c13
          try clear c13b0
          try clear c13b1
          try clear c15
          try clear hx288_0
          try clear hx289_0
          try clear p2
          try clear p288
          try clear p289
          try clear q288
          try clear q289
          obtain ⟨kq, x32_8, rfl, HA, HJ8, HO_3, HO_4, HO_6, HB⟩ := hcut
          cases kq with
          | zero => exact absurd HA.out (by simp [abugidaref07_Levels.j1])
          | succ kj8 =>
            have H := HA.out
            clear HA
            simp only [abugidaref07_Levels.j1] at H
            by_cases c16 : x32_8 = true
            · subst c16
              have H1 : (if 0 ≤ x7_1 then (if x7_1 < (t284.length : Int) then (if (rd t284 x7_1) = 2 then (if x7_1 < (t281.length : Int) then (if (rd t281 x7_1) = 3 then (if x6_1.length < 17592186044416 then (abugidaref07_Levels.l0 kj8 t281 t284 t287 (x6_1 ++ [2]) (wrap64 (x7_1 + 1))) else (none)) else (if (rd t284 x7_1) = 1 then (if t287 = 2 then (if x6_1.length < 17592186044416 then (abugidaref07_Levels.l0 kj8 t281 t284 t287 (x6_1 ++ [2]) (wrap64 (x7_1 + 1))) else (none)) else (if x6_1.length < 17592186044416 then (abugidaref07_Levels.l0 kj8 t281 t284 t287 (x6_1 ++ [1]) (wrap64 (x7_1 + 1))) else (none))) else (if x6_1.length < 17592186044416 then (abugidaref07_Levels.l0 kj8 t281 t284 t287 (x6_1 ++ [1]) (wrap64 (x7_1 + 1))) else (none)))) else (none)) else (if (rd t284 x7_1) = 1 then (if t287 = 2 then (if x6_1.length < 17592186044416 then (abugidaref07_Levels.l0 kj8 t281 t284 t287 (x6_1 ++ [2]) (wrap64 (x7_1 + 1))) else (none)) else (if x6_1.length < 17592186044416 then (abugidaref07_Levels.l0 kj8 t281 t284 t287 (x6_1 ++ [1]) (wrap64 (x7_1 + 1))) else (none))) else (if x6_1.length < 17592186044416 then (abugidaref07_Levels.l0 kj8 t281 t284 t287 (x6_1 ++ [1]) (wrap64 (x7_1 + 1))) else (none)))) else (none)) else (none)) = some r := by rw [if_pos rfl] at H; exact H
              clear H
              have H := H1
              clear H1
              by_cases c17 : 0 ≤ x7_1
              · rw [if_pos c17] at H
                have c17b0 : decide (0 ≤ x7_1) = true := decide_eq_true c17
                clear c17
                by_cases c18 : x7_1 < (t284.length : Int)
                · rw [if_pos c18] at H
                  have c18b0 : decide (x7_1 < (t284.length : Int)) = true := decide_eq_true c18
                  clear c18
                  by_cases c19 : (rd t284 x7_1) = 2
                  · rw [if_pos c19] at H
                    have c19b0 : ((rd t284 x7_1) == 2) = true := beq_iff_eq.mpr c19
                    have c19b1 : ((rd t284 x7_1) != 2) = false := bne_eq_false_iff_eq.mpr c19
                    clear c19
                    by_cases c20 : x7_1 < (t281.length : Int)
                    · rw [if_pos c20] at H
                      have c20b0 : decide (x7_1 < (t281.length : Int)) = true := decide_eq_true c20
                      clear c20
                      by_cases c21 : (rd t281 x7_1) = 3
                      · rw [if_pos c21] at H
                        have c21b0 : ((rd t281 x7_1) == 3) = true := beq_iff_eq.mpr c21
                        have c21b1 : ((rd t281 x7_1) != 3) = false := bne_eq_false_iff_eq.mpr c21
                        clear c21
                        by_cases c22 : x6_1.length < 17592186044416
                        · rw [if_pos c22] at H
                          have LMc22 := Aside0.mk c22
                          clear c22
                          obtain ⟨y292, hy292⟩ : ∃ y_ : List Int, y_ = (x6_1 ++ [2]) := ⟨_, rfl⟩
                          replace H : (abugidaref07_Levels.l0 kj8 t281 t284 t287 y292 (wrap64 (x7_1 + 1))) = some r := by first | (rw [hy292]; with_reducible exact H) | (have H2_ := (Option.bind_some _ _).symm.trans H; rw [hy292]; with_reducible exact H2_) | (have H2_ := (Option.bind_some _ _).symm.trans H; with_reducible exact H2_) | with_reducible exact H | (rw [hy292]; exact H) | exact H
                          have Ny292 := Aside0.mk hy292
                          clear hy292
                          have H' := Aside0.mk H
                          clear H
                          obtain ⟨Ao23, co23, eo23⟩ := Kd.R_slice HO_4.out
                          subst eo23
                          have p290 : 0 ≤ (x7_1 : Int) := of_decide_eq_true (by first | (with_reducible assumption) | assumption)
                          have q290 : x7_1 < (t284.length : Int) := of_decide_eq_true (by first | (with_reducible assumption) | assumption)
                          obtain ⟨ad290, e290, hx290_0⟩ := Kd.at_int (Kd.R_reads' HO_4.out).2.2 x7_1 p290 q290
                          cases e290
                          replace p290 := eq_true p290
                          replace q290 := eq_true q290
                          have p291 : 0 ≤ (x7_1 : Int) := of_decide_eq_true (by first | (with_reducible assumption) | assumption)
                          have q291 : x7_1 < (t281.length : Int) := of_decide_eq_true (by first | (with_reducible assumption) | assumption)
                          obtain ⟨ad291, e291, hx291_0⟩ := Kd.at_int (Kd.R_reads' HO_3.out).2.2 x7_1 p291 q291
                          cases e291
                          replace p291 := eq_true p291
                          replace q291 := eq_true q291
                          go_wp2_with (first | ((with_reducible refine gate_builtin (b := .append) (xs := #[.tmp 56, .tmp 58]) rfl ?_); at_builtin; refine Kd.R_append (Kd.int .i64) (w0 := w) w.heap.size rfl (.tmp 56) (.tmp 58) 26 3 (.int .i64 0) 8 rfl Try.underlying26 info3 rfl (by decide) (by omega) u6 x6_1 2 [.int .i64 2] (fun k_ => some k_ ≠ (.slice (some ad291) t281.length co10 : Value).ownBlock ∧ some k_ ≠ (.slice (some ad290) t284.length co23 : Value).ownBlock) (fun _ => False) rfl rfl ?aP (fun _ hk => hk.elim) ?aF ?aO ?aB ?aS ?aL ?_; (case aP => exact rfl); (case aB => exact (by repeat (first | (with_reducible first | exact HB.out | apply below_alloc | apply pw_below_drewN | apply below_drew1) | exact HB.out))); (case aF => exact (fun k_ hk => ⟨Kd.fresh' (Kd.R_lt (by (with_reducible repeat (first | apply Kd.R_alloc | apply Kd.R_drewN | apply Kd.R_drew)); exact HO_3.out)) k_ hk, Kd.fresh' (Kd.R_lt (by (with_reducible repeat (first | apply Kd.R_alloc | apply Kd.R_drewN | apply Kd.R_drew)); exact HO_4.out)) k_ hk⟩)); (case aO => exact (by (with_reducible repeat (first | apply Kd.R_alloc | apply Kd.R_drewN | apply Kd.R_drew)); exact HO_6.out)); (case aS => exact (below_size (by repeat (first | (with_reducible first | exact HB.out | apply below_alloc | apply pw_below_drewN | apply below_drew1) | exact HB.out)))); (case aL => have := LMc22.out; omega); intro v293 w24 ho hb hg hat; rw [← Ny292.out] at ho; have n0_ := Aside0.mk (Kd.R_after (ok := (fun k_ => some k_ ≠ (.slice (some ad290) t284.length co23 : Value).ownBlock)) (by (with_reducible repeat (first | apply Kd.R_alloc | apply Kd.R_drewN | apply Kd.R_drew)); exact HO_3.out) hg hat); have n1_ := Aside0.mk (Kd.R_after (ok := (fun k_ => some k_ ≠ (.slice (some ad291) t281.length co10 : Value).ownBlock)) (by (with_reducible repeat (first | apply Kd.R_alloc | apply Kd.R_drewN | apply Kd.R_drew)); exact HO_4.out) hg hat); have n2_ := Aside0.mk (hb); have n3_ := Aside0.mk (ho); clear HO_3; clear HO_4; clear HB; clear HO_6; have HO_3 := n0_; have HO_4 := n1_; have HB := n2_; have HO294 := n3_; clear n0_ n1_ n2_ n3_; clear ho hb hg hat))
                          go_roundg kj8
                          case measure => have := HK1.out; have := HJ8.out; omega
                          case rel => exact ⟨(y292), (wrap64 (x7_1 + 1)), (by first | rfl | (simp; done) | (simp [*]; done)), H', ⟨by have := HK1.out; have := HJ8.out; omega⟩, ⟨by (with_reducible repeat (first | apply Kd.R_alloc | apply Kd.R_drewN | apply Kd.R_drew)); exact HO_3.out⟩, ⟨by (with_reducible repeat (first | apply Kd.R_alloc | apply Kd.R_drewN | apply Kd.R_drew)); exact HO_4.out⟩, ⟨by (with_reducible repeat (first | apply Kd.R_alloc | apply Kd.R_drewN | apply Kd.R_drew)); exact HO294.out⟩, ⟨by repeat (first | (with_reducible first | exact HB.out | apply below_alloc | apply pw_below_drewN | apply below_drew1) | exact HB.out)⟩⟩
                        · rw [if_neg c22] at H
                          exact absurd H (by simp)
                      · rw [if_neg c21] at H
                        have c21b0 : ((rd t281 x7_1) == 3) = false := beq_eq_false_iff_ne.mpr c21
                        have c21b1 : ((rd t281 x7_1) != 3) = true := bne_iff_ne.mpr c21
                        by_cases c25 : (rd t284 x7_1) = 1
                        · rw [if_pos c25] at H
                          have c25b0 : ((rd t284 x7_1) == 1) = true := beq_iff_eq.mpr c25
                          have c25b1 : ((rd t284 x7_1) != 1) = false := bne_eq_false_iff_eq.mpr c25
                          clear c25
                          by_cases c26 : t287 = 2
                          · rw [if_pos c26] at H
                            have c26b0 : (t287 == 2) = true := beq_iff_eq.mpr c26
                            have c26b1 : (t287 != 2) = false := bne_eq_false_iff_eq.mpr c26
                            clear c26
                            by_cases c27 : x6_1.length < 17592186044416
                            · rw [if_pos c27] at H
                              have LMc27 := Aside0.mk c27
                              clear c27
                              obtain ⟨y296, hy296⟩ : ∃ y_ : List Int, y_ = (x6_1 ++ [2]) := ⟨_, rfl⟩
                              replace H : (abugidaref07_Levels.l0 kj8 t281 t284 t287 y296 (wrap64 (x7_1 + 1))) = some r := by first | (rw [hy296]; with_reducible exact H) | (have H2_ := (Option.bind_some _ _).symm.trans H; rw [hy296]; with_reducible exact H2_) | (have H2_ := (Option.bind_some _ _).symm.trans H; with_reducible exact H2_) | with_reducible exact H | (rw [hy296]; exact H) | exact H
                              have Ny296 := Aside0.mk hy296
                              clear hy296
                              have H' := Aside0.mk H
                              clear H
                              obtain ⟨Ao28, co28, eo28⟩ := Kd.R_slice HO_4.out
                              subst eo28
                              have p290 : 0 ≤ (x7_1 : Int) := of_decide_eq_true (by first | (with_reducible assumption) | assumption)
                              have q290 : x7_1 < (t284.length : Int) := of_decide_eq_true (by first | (with_reducible assumption) | assumption)
                              obtain ⟨ad290, e290, hx290_0⟩ := Kd.at_int (Kd.R_reads' HO_4.out).2.2 x7_1 p290 q290
                              cases e290
                              replace p290 := eq_true p290
                              replace q290 := eq_true q290
                              have p291 : 0 ≤ (x7_1 : Int) := of_decide_eq_true (by first | (with_reducible assumption) | assumption)
                              have q291 : x7_1 < (t281.length : Int) := of_decide_eq_true (by first | (with_reducible assumption) | assumption)
                              obtain ⟨ad291, e291, hx291_0⟩ := Kd.at_int (Kd.R_reads' HO_3.out).2.2 x7_1 p291 q291
                              cases e291
                              replace p291 := eq_true p291
                              replace q291 := eq_true q291
                              have p295 : 0 ≤ (x7_1 : Int) := of_decide_eq_true (by first | (with_reducible assumption) | assumption)
                              have q295 : x7_1 < (t284.length : Int) := of_decide_eq_true (by first | (with_reducible assumption) | assumption)
                              obtain ⟨ad295, e295, hx295_0⟩ := Kd.at_int (Kd.R_reads' HO_4.out).2.2 x7_1 p295 q295
                              obtain rfl : ad290 = ad295 := (by injection e295)
                              replace p295 := eq_true p295
                              replace q295 := eq_true q295
                              go_wp2_with (first | ((with_reducible refine gate_builtin (b := .append) (xs := #[.tmp 56, .tmp 58]) rfl ?_); at_builtin; refine Kd.R_append (Kd.int .i64) (w0 := w) w.heap.size rfl (.tmp 56) (.tmp 58) 26 3 (.int .i64 0) 8 rfl Try.underlying26 info3 rfl (by decide) (by omega) u6 x6_1 2 [.int .i64 2] (fun k_ => some k_ ≠ (.slice (some ad291) t281.length co10 : Value).ownBlock ∧ some k_ ≠ (.slice (some ad290) t284.length co28 : Value).ownBlock) (fun _ => False) rfl rfl ?aP (fun _ hk => hk.elim) ?aF ?aO ?aB ?aS ?aL ?_; (case aP => exact rfl); (case aB => exact (by repeat (first | (with_reducible first | exact HB.out | apply below_alloc | apply pw_below_drewN | apply below_drew1) | exact HB.out))); (case aF => exact (fun k_ hk => ⟨Kd.fresh' (Kd.R_lt (by (with_reducible repeat (first | apply Kd.R_alloc | apply Kd.R_drewN | apply Kd.R_drew)); exact HO_3.out)) k_ hk, Kd.fresh' (Kd.R_lt (by (with_reducible repeat (first | apply Kd.R_alloc | apply Kd.R_drewN | apply Kd.R_drew)); exact HO_4.out)) k_ hk⟩)); (case aO => exact (by (with_reducible repeat (first | apply Kd.R_alloc | apply Kd.R_drewN | apply Kd.R_drew)); exact HO_6.out)); (case aS => exact (below_size (by repeat (first | (with_reducible first | exact HB.out | apply below_alloc | apply pw_below_drewN | apply below_drew1) | exact HB.out)))); (case aL => have := LMc27.out; omega); intro v297 w29 ho hb hg hat; rw [← Ny296.out] at ho; have n0_ := Aside0.mk (Kd.R_after (ok := (fun k_ => some k_ ≠ (.slice (some ad290) t284.length co28 : Value).ownBlock)) (by (with_reducible repeat (first | apply Kd.R_alloc | apply Kd.R_drewN | apply Kd.R_drew)); exact HO_3.out) hg hat); have n1_ := Aside0.mk (Kd.R_after (ok := (fun k_ => some k_ ≠ (.slice (some ad291) t281.length co10 : Value).ownBlock)) (by (with_reducible repeat (first | apply Kd.R_alloc | apply Kd.R_drewN | apply Kd.R_drew)); exact HO_4.out) hg hat); have n2_ := Aside0.mk (hb); have n3_ := Aside0.mk (ho); clear HO_3; clear HO_4; clear HB; clear HO_6; have HO_3 := n0_; have HO_4 := n1_; have HB := n2_; have HO298 := n3_; clear n0_ n1_ n2_ n3_; clear ho hb hg hat))
                              go_roundg kj8
                              case measure => have := HK1.out; have := HJ8.out; omega
                              case rel => exact ⟨(y296), (wrap64 (x7_1 + 1)), (by first | rfl | (simp; done) | (simp [*]; done)), H', ⟨by have := HK1.out; have := HJ8.out; omega⟩, ⟨by (with_reducible repeat (first | apply Kd.R_alloc | apply Kd.R_drewN | apply Kd.R_drew)); exact HO_3.out⟩, ⟨by (with_reducible repeat (first | apply Kd.R_alloc | apply Kd.R_drewN | apply Kd.R_drew)); exact HO_4.out⟩, ⟨by (with_reducible repeat (first | apply Kd.R_alloc | apply Kd.R_drewN | apply Kd.R_drew)); exact HO298.out⟩, ⟨by repeat (first | (with_reducible first | exact HB.out | apply below_alloc | apply pw_below_drewN | apply below_drew1) | exact HB.out)⟩⟩
                            · rw [if_neg c27] at H
                              exact absurd H (by simp)
                          · rw [if_neg c26] at H
                            have c26b0 : (t287 == 2) = false := beq_eq_false_iff_ne.mpr c26
                            have c26b1 : (t287 != 2) = true := bne_iff_ne.mpr c26
                            by_cases c30 : x6_1.length < 17592186044416
                            · rw [if_pos c30] at H
                              have LMc30 := Aside0.mk c30
                              clear c30
                              obtain ⟨y299, hy299⟩ : ∃ y_ : List Int, y_ = (x6_1 ++ [1]) := ⟨_, rfl⟩
                              replace H : (abugidaref07_Levels.l0 kj8 t281 t284 t287 y299 (wrap64 (x7_1 + 1))) = some r := by first | (rw [hy299]; with_reducible exact H) | (have H2_ := (Option.bind_some _ _).symm.trans H; rw [hy299]; with_reducible exact H2_) | (have H2_ := (Option.bind_some _ _).symm.trans H; with_reducible exact H2_) | with_reducible exact H | (rw [hy299]; exact H) | exact H
                              have Ny299 := Aside0.mk hy299
                              clear hy299
                              have H' := Aside0.mk H
                              clear H
                              obtain ⟨Ao31, co31, eo31⟩ := Kd.R_slice HO_4.out
                              subst eo31
                              have p290 : 0 ≤ (x7_1 : Int) := of_decide_eq_true (by first | (with_reducible assumption) | assumption)
                              have q290 : x7_1 < (t284.length : Int) := of_decide_eq_true (by first | (with_reducible assumption) | assumption)
                              obtain ⟨ad290, e290, hx290_0⟩ := Kd.at_int (Kd.R_reads' HO_4.out).2.2 x7_1 p290 q290
                              cases e290
                              replace p290 := eq_true p290
                              replace q290 := eq_true q290
                              have p291 : 0 ≤ (x7_1 : Int) := of_decide_eq_true (by first | (with_reducible assumption) | assumption)
                              have q291 : x7_1 < (t281.length : Int) := of_decide_eq_true (by first | (with_reducible assumption) | assumption)
                              obtain ⟨ad291, e291, hx291_0⟩ := Kd.at_int (Kd.R_reads' HO_3.out).2.2 x7_1 p291 q291
                              cases e291
                              replace p291 := eq_true p291
                              replace q291 := eq_true q291
                              have p295 : 0 ≤ (x7_1 : Int) := of_decide_eq_true (by first | (with_reducible assumption) | assumption)
                              have q295 : x7_1 < (t284.length : Int) := of_decide_eq_true (by first | (with_reducible assumption) | assumption)
                              obtain ⟨ad295, e295, hx295_0⟩ := Kd.at_int (Kd.R_reads' HO_4.out).2.2 x7_1 p295 q295
                              obtain rfl : ad290 = ad295 := (by injection e295)
                              replace p295 := eq_true p295
                              replace q295 := eq_true q295
                              go_wp2_with (first | ((with_reducible refine gate_builtin (b := .append) (xs := #[.tmp 56, .tmp 58]) rfl ?_); at_builtin; refine Kd.R_append (Kd.int .i64) (w0 := w) w.heap.size rfl (.tmp 56) (.tmp 58) 26 3 (.int .i64 0) 8 rfl Try.underlying26 info3 rfl (by decide) (by omega) u6 x6_1 1 [.int .i64 1] (fun k_ => some k_ ≠ (.slice (some ad291) t281.length co10 : Value).ownBlock ∧ some k_ ≠ (.slice (some ad290) t284.length co31 : Value).ownBlock) (fun _ => False) rfl rfl ?aP (fun _ hk => hk.elim) ?aF ?aO ?aB ?aS ?aL ?_; (case aP => exact rfl); (case aB => exact (by repeat (first | (with_reducible first | exact HB.out | apply below_alloc | apply pw_below_drewN | apply below_drew1) | exact HB.out))); (case aF => exact (fun k_ hk => ⟨Kd.fresh' (Kd.R_lt (by (with_reducible repeat (first | apply Kd.R_alloc | apply Kd.R_drewN | apply Kd.R_drew)); exact HO_3.out)) k_ hk, Kd.fresh' (Kd.R_lt (by (with_reducible repeat (first | apply Kd.R_alloc | apply Kd.R_drewN | apply Kd.R_drew)); exact HO_4.out)) k_ hk⟩)); (case aO => exact (by (with_reducible repeat (first | apply Kd.R_alloc | apply Kd.R_drewN | apply Kd.R_drew)); exact HO_6.out)); (case aS => exact (below_size (by repeat (first | (with_reducible first | exact HB.out | apply below_alloc | apply pw_below_drewN | apply below_drew1) | exact HB.out)))); (case aL => have := LMc30.out; omega); intro v300 w32 ho hb hg hat; rw [← Ny299.out] at ho; have n0_ := Aside0.mk (Kd.R_after (ok := (fun k_ => some k_ ≠ (.slice (some ad290) t284.length co31 : Value).ownBlock)) (by (with_reducible repeat (first | apply Kd.R_alloc | apply Kd.R_drewN | apply Kd.R_drew)); exact HO_3.out) hg hat); have n1_ := Aside0.mk (Kd.R_after (ok := (fun k_ => some k_ ≠ (.slice (some ad291) t281.length co10 : Value).ownBlock)) (by (with_reducible repeat (first | apply Kd.R_alloc | apply Kd.R_drewN | apply Kd.R_drew)); exact HO_4.out) hg hat); have n2_ := Aside0.mk (hb); have n3_ := Aside0.mk (ho); clear HO_3; clear HO_4; clear HB; clear HO_6; have HO_3 := n0_; have HO_4 := n1_; have HB := n2_; have HO301 := n3_; clear n0_ n1_ n2_ n3_; clear ho hb hg hat))
                              go_roundg kj8
                              case measure => have := HK1.out; have := HJ8.out; omega
                              case rel => exact ⟨(y299), (wrap64 (x7_1 + 1)), (by first | rfl | (simp; done) | (simp [*]; done)), H', ⟨by have := HK1.out; have := HJ8.out; omega⟩, ⟨by (with_reducible repeat (first | apply Kd.R_alloc | apply Kd.R_drewN | apply Kd.R_drew)); exact HO_3.out⟩, ⟨by (with_reducible repeat (first | apply Kd.R_alloc | apply Kd.R_drewN | apply Kd.R_drew)); exact HO_4.out⟩, ⟨by (with_reducible repeat (first | apply Kd.R_alloc | apply Kd.R_drewN | apply Kd.R_drew)); exact HO301.out⟩, ⟨by repeat (first | (with_reducible first | exact HB.out | apply below_alloc | apply pw_below_drewN | apply below_drew1) | exact HB.out)⟩⟩
                            · rw [if_neg c30] at H
                              exact absurd H (by simp)
                        · rw [if_neg c25] at H
                          have c25b0 : ((rd t284 x7_1) == 1) = false := beq_eq_false_iff_ne.mpr c25
                          have c25b1 : ((rd t284 x7_1) != 1) = true := bne_iff_ne.mpr c25
                          by_cases c33 : x6_1.length < 17592186044416
                          · rw [if_pos c33] at H
                            have LMc33 := Aside0.mk c33
                            clear c33
                            obtain ⟨y302, hy302⟩ : ∃ y_ : List Int, y_ = (x6_1 ++ [1]) := ⟨_, rfl⟩
                            replace H : (abugidaref07_Levels.l0 kj8 t281 t284 t287 y302 (wrap64 (x7_1 + 1))) = some r := by first | (rw [hy302]; with_reducible exact H) | (have H2_ := (Option.bind_some _ _).symm.trans H; rw [hy302]; with_reducible exact H2_) | (have H2_ := (Option.bind_some _ _).symm.trans H; with_reducible exact H2_) | with_reducible exact H | (rw [hy302]; exact H) | exact H
                            have Ny302 := Aside0.mk hy302
                            clear hy302
                            have H' := Aside0.mk H
                            clear H
                            obtain ⟨Ao34, co34, eo34⟩ := Kd.R_slice HO_4.out
                            subst eo34
                            have p290 : 0 ≤ (x7_1 : Int) := of_decide_eq_true (by first | (with_reducible assumption) | assumption)
                            have q290 : x7_1 < (t284.length : Int) := of_decide_eq_true (by first | (with_reducible assumption) | assumption)
                            obtain ⟨ad290, e290, hx290_0⟩ := Kd.at_int (Kd.R_reads' HO_4.out).2.2 x7_1 p290 q290
                            cases e290
                            replace p290 := eq_true p290
                            replace q290 := eq_true q290
                            have p291 : 0 ≤ (x7_1 : Int) := of_decide_eq_true (by first | (with_reducible assumption) | assumption)
                            have q291 : x7_1 < (t281.length : Int) := of_decide_eq_true (by first | (with_reducible assumption) | assumption)
                            obtain ⟨ad291, e291, hx291_0⟩ := Kd.at_int (Kd.R_reads' HO_3.out).2.2 x7_1 p291 q291
                            cases e291
                            replace p291 := eq_true p291
                            replace q291 := eq_true q291
                            have p295 : 0 ≤ (x7_1 : Int) := of_decide_eq_true (by first | (with_reducible assumption) | assumption)
                            have q295 : x7_1 < (t284.length : Int) := of_decide_eq_true (by first | (with_reducible assumption) | assumption)
                            obtain ⟨ad295, e295, hx295_0⟩ := Kd.at_int (Kd.R_reads' HO_4.out).2.2 x7_1 p295 q295
                            obtain rfl : ad290 = ad295 := (by injection e295)
                            replace p295 := eq_true p295
                            replace q295 := eq_true q295
                            go_wp2_with (first | ((with_reducible refine gate_builtin (b := .append) (xs := #[.tmp 56, .tmp 58]) rfl ?_); at_builtin; refine Kd.R_append (Kd.int .i64) (w0 := w) w.heap.size rfl (.tmp 56) (.tmp 58) 26 3 (.int .i64 0) 8 rfl Try.underlying26 info3 rfl (by decide) (by omega) u6 x6_1 1 [.int .i64 1] (fun k_ => some k_ ≠ (.slice (some ad291) t281.length co10 : Value).ownBlock ∧ some k_ ≠ (.slice (some ad290) t284.length co34 : Value).ownBlock) (fun _ => False) rfl rfl ?aP (fun _ hk => hk.elim) ?aF ?aO ?aB ?aS ?aL ?_; (case aP => exact rfl); (case aB => exact (by repeat (first | (with_reducible first | exact HB.out | apply below_alloc | apply pw_below_drewN | apply below_drew1) | exact HB.out))); (case aF => exact (fun k_ hk => ⟨Kd.fresh' (Kd.R_lt (by (with_reducible repeat (first | apply Kd.R_alloc | apply Kd.R_drewN | apply Kd.R_drew)); exact HO_3.out)) k_ hk, Kd.fresh' (Kd.R_lt (by (with_reducible repeat (first | apply Kd.R_alloc | apply Kd.R_drewN | apply Kd.R_drew)); exact HO_4.out)) k_ hk⟩)); (case aO => exact (by (with_reducible repeat (first | apply Kd.R_alloc | apply Kd.R_drewN | apply Kd.R_drew)); exact HO_6.out)); (case aS => exact (below_size (by repeat (first | (with_reducible first | exact HB.out | apply below_alloc | apply pw_below_drewN | apply below_drew1) | exact HB.out)))); (case aL => have := LMc33.out; omega); intro v303 w35 ho hb hg hat; rw [← Ny302.out] at ho; have n0_ := Aside0.mk (Kd.R_after (ok := (fun k_ => some k_ ≠ (.slice (some ad290) t284.length co34 : Value).ownBlock)) (by (with_reducible repeat (first | apply Kd.R_alloc | apply Kd.R_drewN | apply Kd.R_drew)); exact HO_3.out) hg hat); have n1_ := Aside0.mk (Kd.R_after (ok := (fun k_ => some k_ ≠ (.slice (some ad291) t281.length co10 : Value).ownBlock)) (by (with_reducible repeat (first | apply Kd.R_alloc | apply Kd.R_drewN | apply Kd.R_drew)); exact HO_4.out) hg hat); have n2_ := Aside0.mk (hb); have n3_ := Aside0.mk (ho); clear HO_3; clear HO_4; clear HB; clear HO_6; have HO_3 := n0_; have HO_4 := n1_; have HB := n2_; have HO304 := n3_; clear n0_ n1_ n2_ n3_; clear ho hb hg hat))
                            go_roundg kj8
                            case measure => have := HK1.out; have := HJ8.out; omega
                            case rel => exact ⟨(y302), (wrap64 (x7_1 + 1)), (by first | rfl | (simp; done) | (simp [*]; done)), H', ⟨by have := HK1.out; have := HJ8.out; omega⟩, ⟨by (with_reducible repeat (first | apply Kd.R_alloc | apply Kd.R_drewN | apply Kd.R_drew)); exact HO_3.out⟩, ⟨by (with_reducible repeat (first | apply Kd.R_alloc | apply Kd.R_drewN | apply Kd.R_drew)); exact HO_4.out⟩, ⟨by (with_reducible repeat (first | apply Kd.R_alloc | apply Kd.R_drewN | apply Kd.R_drew)); exact HO304.out⟩, ⟨by repeat (first | (with_reducible first | exact HB.out | apply below_alloc | apply pw_below_drewN | apply below_drew1) | exact HB.out)⟩⟩
                          · rw [if_neg c33] at H
                            exact absurd H (by simp)
                    · rw [if_neg c20] at H
                      exact absurd H (by simp)
                  · rw [if_neg c19] at H
                    have c19b0 : ((rd t284 x7_1) == 2) = false := beq_eq_false_iff_ne.mpr c19
                    have c19b1 : ((rd t284 x7_1) != 2) = true := bne_iff_ne.mpr c19
                    by_cases c36 : (rd t284 x7_1) = 1
                    · rw [if_pos c36] at H
                      have c36b0 : ((rd t284 x7_1) == 1) = true := beq_iff_eq.mpr c36
                      have c36b1 : ((rd t284 x7_1) != 1) = false := bne_eq_false_iff_eq.mpr c36
                      clear c36
                      by_cases c37 : t287 = 2
                      · rw [if_pos c37] at H
                        have c37b0 : (t287 == 2) = true := beq_iff_eq.mpr c37
                        have c37b1 : (t287 != 2) = false := bne_eq_false_iff_eq.mpr c37
                        clear c37
                        by_cases c38 : x6_1.length < 17592186044416
                        · rw [if_pos c38] at H
                          have LMc38 := Aside0.mk c38
                          clear c38
                          obtain ⟨y306, hy306⟩ : ∃ y_ : List Int, y_ = (x6_1 ++ [2]) := ⟨_, rfl⟩
                          replace H : (abugidaref07_Levels.l0 kj8 t281 t284 t287 y306 (wrap64 (x7_1 + 1))) = some r := by first | (rw [hy306]; with_reducible exact H) | (have H2_ := (Option.bind_some _ _).symm.trans H; rw [hy306]; with_reducible exact H2_) | (have H2_ := (Option.bind_some _ _).symm.trans H; with_reducible exact H2_) | with_reducible exact H | (rw [hy306]; exact H) | exact H
                          have Ny306 := Aside0.mk hy306
                          clear hy306
                          have H' := Aside0.mk H
                          clear H
                          obtain ⟨Ao39, co39, eo39⟩ := Kd.R_slice HO_4.out
                          subst eo39
                          have p290 : 0 ≤ (x7_1 : Int) := of_decide_eq_true (by first | (with_reducible assumption) | assumption)
                          have q290 : x7_1 < (t284.length : Int) := of_decide_eq_true (by first | (with_reducible assumption) | assumption)
                          obtain ⟨ad290, e290, hx290_0⟩ := Kd.at_int (Kd.R_reads' HO_4.out).2.2 x7_1 p290 q290
                          cases e290
                          replace p290 := eq_true p290
                          replace q290 := eq_true q290
                          have p305 : 0 ≤ (x7_1 : Int) := of_decide_eq_true (by first | (with_reducible assumption) | assumption)
                          have q305 : x7_1 < (t284.length : Int) := of_decide_eq_true (by first | (with_reducible assumption) | assumption)
                          obtain ⟨ad305, e305, hx305_0⟩ := Kd.at_int (Kd.R_reads' HO_4.out).2.2 x7_1 p305 q305
                          obtain rfl : ad290 = ad305 := (by injection e305)
                          replace p305 := eq_true p305
                          replace q305 := eq_true q305
                          go_wp2_with (first | ((with_reducible refine gate_builtin (b := .append) (xs := #[.tmp 56, .tmp 58]) rfl ?_); at_builtin; refine Kd.R_append (Kd.int .i64) (w0 := w) w.heap.size rfl (.tmp 56) (.tmp 58) 26 3 (.int .i64 0) 8 rfl Try.underlying26 info3 rfl (by decide) (by omega) u6 x6_1 2 [.int .i64 2] (fun k_ => some k_ ≠ (.slice Ao10 t281.length co10 : Value).ownBlock ∧ some k_ ≠ (.slice (some ad290) t284.length co39 : Value).ownBlock) (fun _ => False) rfl rfl ?aP (fun _ hk => hk.elim) ?aF ?aO ?aB ?aS ?aL ?_; (case aP => exact rfl); (case aB => exact (by repeat (first | (with_reducible first | exact HB.out | apply below_alloc | apply pw_below_drewN | apply below_drew1) | exact HB.out))); (case aF => exact (fun k_ hk => ⟨Kd.fresh' (Kd.R_lt (by (with_reducible repeat (first | apply Kd.R_alloc | apply Kd.R_drewN | apply Kd.R_drew)); exact HO_3.out)) k_ hk, Kd.fresh' (Kd.R_lt (by (with_reducible repeat (first | apply Kd.R_alloc | apply Kd.R_drewN | apply Kd.R_drew)); exact HO_4.out)) k_ hk⟩)); (case aO => exact (by (with_reducible repeat (first | apply Kd.R_alloc | apply Kd.R_drewN | apply Kd.R_drew)); exact HO_6.out)); (case aS => exact (below_size (by repeat (first | (with_reducible first | exact HB.out | apply below_alloc | apply pw_below_drewN | apply below_drew1) | exact HB.out)))); (case aL => have := LMc38.out; omega); intro v307 w40 ho hb hg hat; rw [← Ny306.out] at ho; have n0_ := Aside0.mk (Kd.R_after (ok := (fun k_ => some k_ ≠ (.slice (some ad290) t284.length co39 : Value).ownBlock)) (by (with_reducible repeat (first | apply Kd.R_alloc | apply Kd.R_drewN | apply Kd.R_drew)); exact HO_3.out) hg hat); have n1_ := Aside0.mk (Kd.R_after (ok := (fun k_ => some k_ ≠ (.slice Ao10 t281.length co10 : Value).ownBlock)) (by (with_reducible repeat (first | apply Kd.R_alloc | apply Kd.R_drewN | apply Kd.R_drew)); exact HO_4.out) hg hat); have n2_ := Aside0.mk (hb); have n3_ := Aside0.mk (ho); clear HO_3; clear HO_4; clear HB; clear HO_6; have HO_3 := n0_; have HO_4 := n1_; have HB := n2_; have HO308 := n3_; clear n0_ n1_ n2_ n3_; clear ho hb hg hat))
                          go_roundg kj8
                          case measure => have := HK1.out; have := HJ8.out; omega
                          case rel => exact ⟨(y306), (wrap64 (x7_1 + 1)), (by first | rfl | (simp; done) | (simp [*]; done)), H', ⟨by have := HK1.out; have := HJ8.out; omega⟩, ⟨by (with_reducible repeat (first | apply Kd.R_alloc | apply Kd.R_drewN | apply Kd.R_drew)); exact HO_3.out⟩, ⟨by (with_reducible repeat (first | apply Kd.R_alloc | apply Kd.R_drewN | apply Kd.R_drew)); exact HO_4.out⟩, ⟨by (with_reducible repeat (first | apply Kd.R_alloc | apply Kd.R_drewN | apply Kd.R_drew)); exact HO308.out⟩, ⟨by repeat (first | (with_reducible first | exact HB.out | apply below_alloc | apply pw_below_drewN | apply below_drew1) | exact HB.out)⟩⟩
                        · rw [if_neg c38] at H
                          exact absurd H (by simp)
                      · rw [if_neg c37] at H
                        have c37b0 : (t287 == 2) = false := beq_eq_false_iff_ne.mpr c37
                        have c37b1 : (t287 != 2) = true := bne_iff_ne.mpr c37
                        by_cases c41 : x6_1.length < 17592186044416
                        · rw [if_pos c41] at H
                          have LMc41 := Aside0.mk c41
                          clear c41
                          obtain ⟨y309, hy309⟩ : ∃ y_ : List Int, y_ = (x6_1 ++ [1]) := ⟨_, rfl⟩
                          replace H : (abugidaref07_Levels.l0 kj8 t281 t284 t287 y309 (wrap64 (x7_1 + 1))) = some r := by first | (rw [hy309]; with_reducible exact H) | (have H2_ := (Option.bind_some _ _).symm.trans H; rw [hy309]; with_reducible exact H2_) | (have H2_ := (Option.bind_some _ _).symm.trans H; with_reducible exact H2_) | with_reducible exact H | (rw [hy309]; exact H) | exact H
                          have Ny309 := Aside0.mk hy309
                          clear hy309
                          have H' := Aside0.mk H
                          clear H
                          obtain ⟨Ao42, co42, eo42⟩ := Kd.R_slice HO_4.out
                          subst eo42
                          have p290 : 0 ≤ (x7_1 : Int) := of_decide_eq_true (by first | (with_reducible assumption) | assumption)
                          have q290 : x7_1 < (t284.length : Int) := of_decide_eq_true (by first | (with_reducible assumption) | assumption)
                          obtain ⟨ad290, e290, hx290_0⟩ := Kd.at_int (Kd.R_reads' HO_4.out).2.2 x7_1 p290 q290
                          cases e290
                          replace p290 := eq_true p290
                          replace q290 := eq_true q290
                          have p305 : 0 ≤ (x7_1 : Int) := of_decide_eq_true (by first | (with_reducible assumption) | assumption)
                          have q305 : x7_1 < (t284.length : Int) := of_decide_eq_true (by first | (with_reducible assumption) | assumption)
                          obtain ⟨ad305, e305, hx305_0⟩ := Kd.at_int (Kd.R_reads' HO_4.out).2.2 x7_1 p305 q305
                          obtain rfl : ad290 = ad305 := (by injection e305)
                          replace p305 := eq_true p305
                          replace q305 := eq_true q305
                          go_wp2_with (first | ((with_reducible refine gate_builtin (b := .append) (xs := #[.tmp 56, .tmp 58]) rfl ?_); at_builtin; refine Kd.R_append (Kd.int .i64) (w0 := w) w.heap.size rfl (.tmp 56) (.tmp 58) 26 3 (.int .i64 0) 8 rfl Try.underlying26 info3 rfl (by decide) (by omega) u6 x6_1 1 [.int .i64 1] (fun k_ => some k_ ≠ (.slice Ao10 t281.length co10 : Value).ownBlock ∧ some k_ ≠ (.slice (some ad290) t284.length co42 : Value).ownBlock) (fun _ => False) rfl rfl ?aP (fun _ hk => hk.elim) ?aF ?aO ?aB ?aS ?aL ?_; (case aP => exact rfl); (case aB => exact (by repeat (first | (with_reducible first | exact HB.out | apply below_alloc | apply pw_below_drewN | apply below_drew1) | exact HB.out))); (case aF => exact (fun k_ hk => ⟨Kd.fresh' (Kd.R_lt (by (with_reducible repeat (first | apply Kd.R_alloc | apply Kd.R_drewN | apply Kd.R_drew)); exact HO_3.out)) k_ hk, Kd.fresh' (Kd.R_lt (by (with_reducible repeat (first | apply Kd.R_alloc | apply Kd.R_drewN | apply Kd.R_drew)); exact HO_4.out)) k_ hk⟩)); (case aO => exact (by (with_reducible repeat (first | apply Kd.R_alloc | apply Kd.R_drewN | apply Kd.R_drew)); exact HO_6.out)); (case aS => exact (below_size (by repeat (first | (with_reducible first | exact HB.out | apply below_alloc | apply pw_below_drewN | apply below_drew1) | exact HB.out)))); (case aL => have := LMc41.out; omega); intro v310 w43 ho hb hg hat; rw [← Ny309.out] at ho; have n0_ := Aside0.mk (Kd.R_after (ok := (fun k_ => some k_ ≠ (.slice (some ad290) t284.length co42 : Value).ownBlock)) (by (with_reducible repeat (first | apply Kd.R_alloc | apply Kd.R_drewN | apply Kd.R_drew)); exact HO_3.out) hg hat); have n1_ := Aside0.mk (Kd.R_after (ok := (fun k_ => some k_ ≠ (.slice Ao10 t281.length co10 : Value).ownBlock)) (by (with_reducible repeat (first | apply Kd.R_alloc | apply Kd.R_drewN | apply Kd.R_drew)); exact HO_4.out) hg hat); have n2_ := Aside0.mk (hb); have n3_ := Aside0.mk (ho); clear HO_3; clear HO_4; clear HB; clear HO_6; have HO_3 := n0_; have HO_4 := n1_; have HB := n2_; have HO311 := n3_; clear n0_ n1_ n2_ n3_; clear ho hb hg hat))
                          go_roundg kj8
                          case measure => have := HK1.out; have := HJ8.out; omega
                          case rel => exact ⟨(y309), (wrap64 (x7_1 + 1)), (by first | rfl | (simp; done) | (simp [*]; done)), H', ⟨by have := HK1.out; have := HJ8.out; omega⟩, ⟨by (with_reducible repeat (first | apply Kd.R_alloc | apply Kd.R_drewN | apply Kd.R_drew)); exact HO_3.out⟩, ⟨by (with_reducible repeat (first | apply Kd.R_alloc | apply Kd.R_drewN | apply Kd.R_drew)); exact HO_4.out⟩, ⟨by (with_reducible repeat (first | apply Kd.R_alloc | apply Kd.R_drewN | apply Kd.R_drew)); exact HO311.out⟩, ⟨by repeat (first | (with_reducible first | exact HB.out | apply below_alloc | apply pw_below_drewN | apply below_drew1) | exact HB.out)⟩⟩
                        · rw [if_neg c41] at H
                          exact absurd H (by simp)
                    · rw [if_neg c36] at H
                      have c36b0 : ((rd t284 x7_1) == 1) = false := beq_eq_false_iff_ne.mpr c36
                      have c36b1 : ((rd t284 x7_1) != 1) = true := bne_iff_ne.mpr c36
                      by_cases c44 : x6_1.length < 17592186044416
                      · rw [if_pos c44] at H
                        have LMc44 := Aside0.mk c44
                        clear c44
                        obtain ⟨y312, hy312⟩ : ∃ y_ : List Int, y_ = (x6_1 ++ [1]) := ⟨_, rfl⟩
                        replace H : (abugidaref07_Levels.l0 kj8 t281 t284 t287 y312 (wrap64 (x7_1 + 1))) = some r := by first | (rw [hy312]; with_reducible exact H) | (have H2_ := (Option.bind_some _ _).symm.trans H; rw [hy312]; with_reducible exact H2_) | (have H2_ := (Option.bind_some _ _).symm.trans H; with_reducible exact H2_) | with_reducible exact H | (rw [hy312]; exact H) | exact H
                        have Ny312 := Aside0.mk hy312
                        clear hy312
                        have H' := Aside0.mk H
                        clear H
                        obtain ⟨Ao45, co45, eo45⟩ := Kd.R_slice HO_4.out
                        subst eo45
                        have p290 : 0 ≤ (x7_1 : Int) := of_decide_eq_true (by first | (with_reducible assumption) | assumption)
                        have q290 : x7_1 < (t284.length : Int) := of_decide_eq_true (by first | (with_reducible assumption) | assumption)
                        obtain ⟨ad290, e290, hx290_0⟩ := Kd.at_int (Kd.R_reads' HO_4.out).2.2 x7_1 p290 q290
                        cases e290
                        replace p290 := eq_true p290
                        replace q290 := eq_true q290
                        have p305 : 0 ≤ (x7_1 : Int) := of_decide_eq_true (by first | (with_reducible assumption) | assumption)
                        have q305 : x7_1 < (t284.length : Int) := of_decide_eq_true (by first | (with_reducible assumption) | assumption)
                        obtain ⟨ad305, e305, hx305_0⟩ := Kd.at_int (Kd.R_reads' HO_4.out).2.2 x7_1 p305 q305
                        obtain rfl : ad290 = ad305 := (by injection e305)
                        replace p305 := eq_true p305
                        replace q305 := eq_true q305
                        go_wp2_with (first | ((with_reducible refine gate_builtin (b := .append) (xs := #[.tmp 56, .tmp 58]) rfl ?_); at_builtin; refine Kd.R_append (Kd.int .i64) (w0 := w) w.heap.size rfl (.tmp 56) (.tmp 58) 26 3 (.int .i64 0) 8 rfl Try.underlying26 info3 rfl (by decide) (by omega) u6 x6_1 1 [.int .i64 1] (fun k_ => some k_ ≠ (.slice Ao10 t281.length co10 : Value).ownBlock ∧ some k_ ≠ (.slice (some ad290) t284.length co45 : Value).ownBlock) (fun _ => False) rfl rfl ?aP (fun _ hk => hk.elim) ?aF ?aO ?aB ?aS ?aL ?_; (case aP => exact rfl); (case aB => exact (by repeat (first | (with_reducible first | exact HB.out | apply below_alloc | apply pw_below_drewN | apply below_drew1) | exact HB.out))); (case aF => exact (fun k_ hk => ⟨Kd.fresh' (Kd.R_lt (by (with_reducible repeat (first | apply Kd.R_alloc | apply Kd.R_drewN | apply Kd.R_drew)); exact HO_3.out)) k_ hk, Kd.fresh' (Kd.R_lt (by (with_reducible repeat (first | apply Kd.R_alloc | apply Kd.R_drewN | apply Kd.R_drew)); exact HO_4.out)) k_ hk⟩)); (case aO => exact (by (with_reducible repeat (first | apply Kd.R_alloc | apply Kd.R_drewN | apply Kd.R_drew)); exact HO_6.out)); (case aS => exact (below_size (by repeat (first | (with_reducible first | exact HB.out | apply below_alloc | apply pw_below_drewN | apply below_drew1) | exact HB.out)))); (case aL => have := LMc44.out; omega); intro v313 w46 ho hb hg hat; rw [← Ny312.out] at ho; have n0_ := Aside0.mk (Kd.R_after (ok := (fun k_ => some k_ ≠ (.slice (some ad290) t284.length co45 : Value).ownBlock)) (by (with_reducible repeat (first | apply Kd.R_alloc | apply Kd.R_drewN | apply Kd.R_drew)); exact HO_3.out) hg hat); have n1_ := Aside0.mk (Kd.R_after (ok := (fun k_ => some k_ ≠ (.slice Ao10 t281.length co10 : Value).ownBlock)) (by (with_reducible repeat (first | apply Kd.R_alloc | apply Kd.R_drewN | apply Kd.R_drew)); exact HO_4.out) hg hat); have n2_ := Aside0.mk (hb); have n3_ := Aside0.mk (ho); clear HO_3; clear HO_4; clear HB; clear HO_6; have HO_3 := n0_; have HO_4 := n1_; have HB := n2_; have HO314 := n3_; clear n0_ n1_ n2_ n3_; clear ho hb hg hat))
                        go_roundg kj8
                        case measure => have := HK1.out; have := HJ8.out; omega
                        case rel => exact ⟨(y312), (wrap64 (x7_1 + 1)), (by first | rfl | (simp; done) | (simp [*]; done)), H', ⟨by have := HK1.out; have := HJ8.out; omega⟩, ⟨by (with_reducible repeat (first | apply Kd.R_alloc | apply Kd.R_drewN | apply Kd.R_drew)); exact HO_3.out⟩, ⟨by (with_reducible repeat (first | apply Kd.R_alloc | apply Kd.R_drewN | apply Kd.R_drew)); exact HO_4.out⟩, ⟨by (with_reducible repeat (first | apply Kd.R_alloc | apply Kd.R_drewN | apply Kd.R_drew)); exact HO314.out⟩, ⟨by repeat (first | (with_reducible first | exact HB.out | apply below_alloc | apply pw_below_drewN | apply below_drew1) | exact HB.out)⟩⟩
                      · rw [if_neg c44] at H
                        exact absurd H (by simp)
                · rw [if_neg c18] at H
                  exact absurd H (by simp)
              · rw [if_neg c17] at H
                exact absurd H (by simp)
            · replace c16 := Bool.eq_false_iff.mpr c16
              subst c16
              have H1 : (if 0 ≤ x7_1 then (if x7_1 < (t284.length : Int) then (if (rd t284 x7_1) = 2 then (if x7_1 < (t281.length : Int) then (if (rd t281 x7_1) = 3 then (if x6_1.length < 17592186044416 then (abugidaref07_Levels.l0 kj8 t281 t284 t287 (x6_1 ++ [2]) (wrap64 (x7_1 + 1))) else (none)) else (if (rd t284 x7_1) = 1 then (if t287 = 2 then (if x6_1.length < 17592186044416 then (abugidaref07_Levels.l0 kj8 t281 t284 t287 (x6_1 ++ [2]) (wrap64 (x7_1 + 1))) else (none)) else (if x6_1.length < 17592186044416 then (abugidaref07_Levels.l0 kj8 t281 t284 t287 (x6_1 ++ [0]) (wrap64 (x7_1 + 1))) else (none))) else (if x6_1.length < 17592186044416 then (abugidaref07_Levels.l0 kj8 t281 t284 t287 (x6_1 ++ [0]) (wrap64 (x7_1 + 1))) else (none)))) else (none)) else (if (rd t284 x7_1) = 1 then (if t287 = 2 then (if x6_1.length < 17592186044416 then (abugidaref07_Levels.l0 kj8 t281 t284 t287 (x6_1 ++ [2]) (wrap64 (x7_1 + 1))) else (none)) else (if x6_1.length < 17592186044416 then (abugidaref07_Levels.l0 kj8 t281 t284 t287 (x6_1 ++ [0]) (wrap64 (x7_1 + 1))) else (none))) else (if x6_1.length < 17592186044416 then (abugidaref07_Levels.l0 kj8 t281 t284 t287 (x6_1 ++ [0]) (wrap64 (x7_1 + 1))) else (none)))) else (none)) else (none)) = some r := by rw [if_neg (show ¬ (false = true) by decide)] at H; exact H
              clear H
              have H := H1
              clear H1
              by_cases c47 : 0 ≤ x7_1
              · rw [if_pos c47] at H
                have c47b0 : decide (0 ≤ x7_1) = true := decide_eq_true c47
                clear c47
                by_cases c48 : x7_1 < (t284.length : Int)
                · rw [if_pos c48] at H
                  have c48b0 : decide (x7_1 < (t284.length : Int)) = true := decide_eq_true c48
                  clear c48
                  by_cases c49 : (rd t284 x7_1) = 2
                  · rw [if_pos c49] at H
                    have c49b0 : ((rd t284 x7_1) == 2) = true := beq_iff_eq.mpr c49
                    have c49b1 : ((rd t284 x7_1) != 2) = false := bne_eq_false_iff_eq.mpr c49
                    clear c49
                    by_cases c50 : x7_1 < (t281.length : Int)
                    · rw [if_pos c50] at H
                      have c50b0 : decide (x7_1 < (t281.length : Int)) = true := decide_eq_true c50
                      clear c50
                      by_cases c51 : (rd t281 x7_1) = 3
                      · rw [if_pos c51] at H
                        have c51b0 : ((rd t281 x7_1) == 3) = true := beq_iff_eq.mpr c51
                        have c51b1 : ((rd t281 x7_1) != 3) = false := bne_eq_false_iff_eq.mpr c51
                        clear c51
                        by_cases c52 : x6_1.length < 17592186044416
                        · rw [if_pos c52] at H
                          have LMc52 := Aside0.mk c52
                          clear c52
                          obtain ⟨y317, hy317⟩ : ∃ y_ : List Int, y_ = (x6_1 ++ [2]) := ⟨_, rfl⟩
                          replace H : (abugidaref07_Levels.l0 kj8 t281 t284 t287 y317 (wrap64 (x7_1 + 1))) = some r := by first | (rw [hy317]; with_reducible exact H) | (have H2_ := (Option.bind_some _ _).symm.trans H; rw [hy317]; with_reducible exact H2_) | (have H2_ := (Option.bind_some _ _).symm.trans H; with_reducible exact H2_) | with_reducible exact H | (rw [hy317]; exact H) | exact H
                          have Ny317 := Aside0.mk hy317
                          clear hy317
                          have H' := Aside0.mk H
                          clear H
                          obtain ⟨Ao53, co53, eo53⟩ := Kd.R_slice HO_4.out
                          subst eo53
                          have p315 : 0 ≤ (x7_1 : Int) := of_decide_eq_true (by first | (with_reducible assumption) | assumption)
                          have q315 : x7_1 < (t284.length : Int) := of_decide_eq_true (by first | (with_reducible assumption) | assumption)
                          obtain ⟨ad315, e315, hx315_0⟩ := Kd.at_int (Kd.R_reads' HO_4.out).2.2 x7_1 p315 q315
                          cases e315
                          replace p315 := eq_true p315
                          replace q315 := eq_true q315
                          have p316 : 0 ≤ (x7_1 : Int) := of_decide_eq_true (by first | (with_reducible assumption) | assumption)
                          have q316 : x7_1 < (t281.length : Int) := of_decide_eq_true (by first | (with_reducible assumption) | assumption)
                          obtain ⟨ad316, e316, hx316_0⟩ := Kd.at_int (Kd.R_reads' HO_3.out).2.2 x7_1 p316 q316
                          cases e316
                          replace p316 := eq_true p316
                          replace q316 := eq_true q316
                          go_wp2_with (first | ((with_reducible refine gate_builtin (b := .append) (xs := #[.tmp 56, .tmp 58]) rfl ?_); at_builtin; refine Kd.R_append (Kd.int .i64) (w0 := w) w.heap.size rfl (.tmp 56) (.tmp 58) 26 3 (.int .i64 0) 8 rfl Try.underlying26 info3 rfl (by decide) (by omega) u6 x6_1 2 [.int .i64 2] (fun k_ => some k_ ≠ (.slice (some ad316) t281.length co10 : Value).ownBlock ∧ some k_ ≠ (.slice (some ad315) t284.length co53 : Value).ownBlock) (fun _ => False) rfl rfl ?aP (fun _ hk => hk.elim) ?aF ?aO ?aB ?aS ?aL ?_; (case aP => exact rfl); (case aB => exact (by repeat (first | (with_reducible first | exact HB.out | apply below_alloc | apply pw_below_drewN | apply below_drew1) | exact HB.out))); (case aF => exact (fun k_ hk => ⟨Kd.fresh' (Kd.R_lt (by (with_reducible repeat (first | apply Kd.R_alloc | apply Kd.R_drewN | apply Kd.R_drew)); exact HO_3.out)) k_ hk, Kd.fresh' (Kd.R_lt (by (with_reducible repeat (first | apply Kd.R_alloc | apply Kd.R_drewN | apply Kd.R_drew)); exact HO_4.out)) k_ hk⟩)); (case aO => exact (by (with_reducible repeat (first | apply Kd.R_alloc | apply Kd.R_drewN | apply Kd.R_drew)); exact HO_6.out)); (case aS => exact (below_size (by repeat (first | (with_reducible first | exact HB.out | apply below_alloc | apply pw_below_drewN | apply below_drew1) | exact HB.out)))); (case aL => have := LMc52.out; omega); intro v318 w54 ho hb hg hat; rw [← Ny317.out] at ho; have n0_ := Aside0.mk (Kd.R_after (ok := (fun k_ => some k_ ≠ (.slice (some ad315) t284.length co53 : Value).ownBlock)) (by (with_reducible repeat (first | apply Kd.R_alloc | apply Kd.R_drewN | apply Kd.R_drew)); exact HO_3.out) hg hat); have n1_ := Aside0.mk (Kd.R_after (ok := (fun k_ => some k_ ≠ (.slice (some ad316) t281.length co10 : Value).ownBlock)) (by (with_reducible repeat (first | apply Kd.R_alloc | apply Kd.R_drewN | apply Kd.R_drew)); exact HO_4.out) hg hat); have n2_ := Aside0.mk (hb); have n3_ := Aside0.mk (ho); clear HO_3; clear HO_4; clear HB; clear HO_6; have HO_3 := n0_; have HO_4 := n1_; have HB := n2_; have HO319 := n3_; clear n0_ n1_ n2_ n3_; clear ho hb hg hat))
                          go_roundg kj8
                          case measure => have := HK1.out; have := HJ8.out; omega
                          case rel => exact ⟨(y317), (wrap64 (x7_1 + 1)), (by first | rfl | (simp; done) | (simp [*]; done)), H', ⟨by have := HK1.out; have := HJ8.out; omega⟩, ⟨by (with_reducible repeat (first | apply Kd.R_alloc | apply Kd.R_drewN | apply Kd.R_drew)); exact HO_3.out⟩, ⟨by (with_reducible repeat (first | apply Kd.R_alloc | apply Kd.R_drewN | apply Kd.R_drew)); exact HO_4.out⟩, ⟨by (with_reducible repeat (first | apply Kd.R_alloc | apply Kd.R_drewN | apply Kd.R_drew)); exact HO319.out⟩, ⟨by repeat (first | (with_reducible first | exact HB.out | apply below_alloc | apply pw_below_drewN | apply below_drew1) | exact HB.out)⟩⟩
                        · rw [if_neg c52] at H
                          exact absurd H (by simp)
                      · rw [if_neg c51] at H
                        have c51b0 : ((rd t281 x7_1) == 3) = false := beq_eq_false_iff_ne.mpr c51
                        have c51b1 : ((rd t281 x7_1) != 3) = true := bne_iff_ne.mpr c51
                        by_cases c55 : (rd t284 x7_1) = 1
                        · rw [if_pos c55] at H
                          have c55b0 : ((rd t284 x7_1) == 1) = true := beq_iff_eq.mpr c55
                          have c55b1 : ((rd t284 x7_1) != 1) = false := bne_eq_false_iff_eq.mpr c55
                          clear c55
                          by_cases c56 : t287 = 2
                          · rw [if_pos c56] at H
                            have c56b0 : (t287 == 2) = true := beq_iff_eq.mpr c56
                            have c56b1 : (t287 != 2) = false := bne_eq_false_iff_eq.mpr c56
                            clear c56
                            by_cases c57 : x6_1.length < 17592186044416
                            · rw [if_pos c57] at H
                              have LMc57 := Aside0.mk c57
                              clear c57
                              obtain ⟨y321, hy321⟩ : ∃ y_ : List Int, y_ = (x6_1 ++ [2]) := ⟨_, rfl⟩
                              replace H : (abugidaref07_Levels.l0 kj8 t281 t284 t287 y321 (wrap64 (x7_1 + 1))) = some r := by first | (rw [hy321]; with_reducible exact H) | (have H2_ := (Option.bind_some _ _).symm.trans H; rw [hy321]; with_reducible exact H2_) | (have H2_ := (Option.bind_some _ _).symm.trans H; with_reducible exact H2_) | with_reducible exact H | (rw [hy321]; exact H) | exact H
                              have Ny321 := Aside0.mk hy321
                              clear hy321
                              have H' := Aside0.mk H
                              clear H
                              obtain ⟨Ao58, co58, eo58⟩ := Kd.R_slice HO_4.out
                              subst eo58
                              have p315 : 0 ≤ (x7_1 : Int) := of_decide_eq_true (by first | (with_reducible assumption) | assumption)
                              have q315 : x7_1 < (t284.length : Int) := of_decide_eq_true (by first | (with_reducible assumption) | assumption)
                              obtain ⟨ad315, e315, hx315_0⟩ := Kd.at_int (Kd.R_reads' HO_4.out).2.2 x7_1 p315 q315
                              cases e315
                              replace p315 := eq_true p315
                              replace q315 := eq_true q315
                              have p316 : 0 ≤ (x7_1 : Int) := of_decide_eq_true (by first | (with_reducible assumption) | assumption)
                              have q316 : x7_1 < (t281.length : Int) := of_decide_eq_true (by first | (with_reducible assumption) | assumption)
                              obtain ⟨ad316, e316, hx316_0⟩ := Kd.at_int (Kd.R_reads' HO_3.out).2.2 x7_1 p316 q316
                              cases e316
                              replace p316 := eq_true p316
                              replace q316 := eq_true q316
                              have p320 : 0 ≤ (x7_1 : Int) := of_decide_eq_true (by first | (with_reducible assumption) | assumption)
                              have q320 : x7_1 < (t284.length : Int) := of_decide_eq_true (by first | (with_reducible assumption) | assumption)
                              obtain ⟨ad320, e320, hx320_0⟩ := Kd.at_int (Kd.R_reads' HO_4.out).2.2 x7_1 p320 q320
                              obtain rfl : ad315 = ad320 := (by injection e320)
                              replace p320 := eq_true p320
                              replace q320 := eq_true q320
                              go_wp2_with (first | ((with_reducible refine gate_builtin (b := .append) (xs := #[.tmp 56, .tmp 58]) rfl ?_); at_builtin; refine Kd.R_append (Kd.int .i64) (w0 := w) w.heap.size rfl (.tmp 56) (.tmp 58) 26 3 (.int .i64 0) 8 rfl Try.underlying26 info3 rfl (by decide) (by omega) u6 x6_1 2 [.int .i64 2] (fun k_ => some k_ ≠ (.slice (some ad316) t281.length co10 : Value).ownBlock ∧ some k_ ≠ (.slice (some ad315) t284.length co58 : Value).ownBlock) (fun _ => False) rfl rfl ?aP (fun _ hk => hk.elim) ?aF ?aO ?aB ?aS ?aL ?_; (case aP => exact rfl); (case aB => exact (by repeat (first | (with_reducible first | exact HB.out | apply below_alloc | apply pw_below_drewN | apply below_drew1) | exact HB.out))); (case aF => exact (fun k_ hk => ⟨Kd.fresh' (Kd.R_lt (by (with_reducible repeat (first | apply Kd.R_alloc | apply Kd.R_drewN | apply Kd.R_drew)); exact HO_3.out)) k_ hk, Kd.fresh' (Kd.R_lt (by (with_reducible repeat (first | apply Kd.R_alloc | apply Kd.R_drewN | apply Kd.R_drew)); exact HO_4.out)) k_ hk⟩)); (case aO => exact (by (with_reducible repeat (first | apply Kd.R_alloc | apply Kd.R_drewN | apply Kd.R_drew)); exact HO_6.out)); (case aS => exact (below_size (by repeat (first | (with_reducible first | exact HB.out | apply below_alloc | apply pw_below_drewN | apply below_drew1) | exact HB.out)))); (case aL => have := LMc57.out; omega); intro v322 w59 ho hb hg hat; rw [← Ny321.out] at ho; have n0_ := Aside0.mk (Kd.R_after (ok := (fun k_ => some k_ ≠ (.slice (some ad315) t284.length co58 : Value).ownBlock)) (by (with_reducible repeat (first | apply Kd.R_alloc | apply Kd.R_drewN | apply Kd.R_drew)); exact HO_3.out) hg hat); have n1_ := Aside0.mk (Kd.R_after (ok := (fun k_ => some k_ ≠ (.slice (some ad316) t281.length co10 : Value).ownBlock)) (by (with_reducible repeat (first | apply Kd.R_alloc | apply Kd.R_drewN | apply Kd.R_drew)); exact HO_4.out) hg hat); have n2_ := Aside0.mk (hb); have n3_ := Aside0.mk (ho); clear HO_3; clear HO_4; clear HB; clear HO_6; have HO_3 := n0_; have HO_4 := n1_; have HB := n2_; have HO323 := n3_; clear n0_ n1_ n2_ n3_; clear ho hb hg hat))
                              go_roundg kj8
                              case measure => have := HK1.out; have := HJ8.out; omega
                              case rel => exact ⟨(y321), (wrap64 (x7_1 + 1)), (by first | rfl | (simp; done) | (simp [*]; done)), H', ⟨by have := HK1.out; have := HJ8.out; omega⟩, ⟨by (with_reducible repeat (first | apply Kd.R_alloc | apply Kd.R_drewN | apply Kd.R_drew)); exact HO_3.out⟩, ⟨by (with_reducible repeat (first | apply Kd.R_alloc | apply Kd.R_drewN | apply Kd.R_drew)); exact HO_4.out⟩, ⟨by (with_reducible repeat (first | apply Kd.R_alloc | apply Kd.R_drewN | apply Kd.R_drew)); exact HO323.out⟩, ⟨by repeat (first | (with_reducible first | exact HB.out | apply below_alloc | apply pw_below_drewN | apply below_drew1) | exact HB.out)⟩⟩
                            · rw [if_neg c57] at H
                              exact absurd H (by simp)
                          · rw [if_neg c56] at H
                            have c56b0 : (t287 == 2) = false := beq_eq_false_iff_ne.mpr c56
                            have c56b1 : (t287 != 2) = true := bne_iff_ne.mpr c56
                            by_cases c60 : x6_1.length < 17592186044416
                            · rw [if_pos c60] at H
                              have LMc60 := Aside0.mk c60
                              clear c60
                              obtain ⟨y324, hy324⟩ : ∃ y_ : List Int, y_ = (x6_1 ++ [0]) := ⟨_, rfl⟩
                              replace H : (abugidaref07_Levels.l0 kj8 t281 t284 t287 y324 (wrap64 (x7_1 + 1))) = some r := by first | (rw [hy324]; with_reducible exact H) | (have H2_ := (Option.bind_some _ _).symm.trans H; rw [hy324]; with_reducible exact H2_) | (have H2_ := (Option.bind_some _ _).symm.trans H; with_reducible exact H2_) | with_reducible exact H | (rw [hy324]; exact H) | exact H
                              have Ny324 := Aside0.mk hy324
                              clear hy324
                              have H' := Aside0.mk H
                              clear H
                              obtain ⟨Ao61, co61, eo61⟩ := Kd.R_slice HO_4.out
                              subst eo61
                              have p315 : 0 ≤ (x7_1 : Int) := of_decide_eq_true (by first | (with_reducible assumption) | assumption)
                              have q315 : x7_1 < (t284.length : Int) := of_decide_eq_true (by first | (with_reducible assumption) | assumption)
                              obtain ⟨ad315, e315, hx315_0⟩ := Kd.at_int (Kd.R_reads' HO_4.out).2.2 x7_1 p315 q315
                              cases e315
                              replace p315 := eq_true p315
                              replace q315 := eq_true q315
                              have p316 : 0 ≤ (x7_1 : Int) := of_decide_eq_true (by first | (with_reducible assumption) | assumption)
                              have q316 : x7_1 < (t281.length : Int) := of_decide_eq_true (by first | (with_reducible assumption) | assumption)
                              obtain ⟨ad316, e316, hx316_0⟩ := Kd.at_int (Kd.R_reads' HO_3.out).2.2 x7_1 p316 q316
                              cases e316
                              replace p316 := eq_true p316
                              replace q316 := eq_true q316
                              have p320 : 0 ≤ (x7_1 : Int) := of_decide_eq_true (by first | (with_reducible assumption) | assumption)
                              have q320 : x7_1 < (t284.length : Int) := of_decide_eq_true (by first | (with_reducible assumption) | assumption)
                              obtain ⟨ad320, e320, hx320_0⟩ := Kd.at_int (Kd.R_reads' HO_4.out).2.2 x7_1 p320 q320
                              obtain rfl : ad315 = ad320 := (by injection e320)
                              replace p320 := eq_true p320
                              replace q320 := eq_true q320
                              go_wp2_with (first | ((with_reducible refine gate_builtin (b := .append) (xs := #[.tmp 56, .tmp 58]) rfl ?_); at_builtin; refine Kd.R_append (Kd.int .i64) (w0 := w) w.heap.size rfl (.tmp 56) (.tmp 58) 26 3 (.int .i64 0) 8 rfl Try.underlying26 info3 rfl (by decide) (by omega) u6 x6_1 0 [.int .i64 0] (fun k_ => some k_ ≠ (.slice (some ad316) t281.length co10 : Value).ownBlock ∧ some k_ ≠ (.slice (some ad315) t284.length co61 : Value).ownBlock) (fun _ => False) rfl rfl ?aP (fun _ hk => hk.elim) ?aF ?aO ?aB ?aS ?aL ?_; (case aP => exact rfl); (case aB => exact (by repeat (first | (with_reducible first | exact HB.out | apply below_alloc | apply pw_below_drewN | apply below_drew1) | exact HB.out))); (case aF => exact (fun k_ hk => ⟨Kd.fresh' (Kd.R_lt (by (with_reducible repeat (first | apply Kd.R_alloc | apply Kd.R_drewN | apply Kd.R_drew)); exact HO_3.out)) k_ hk, Kd.fresh' (Kd.R_lt (by (with_reducible repeat (first | apply Kd.R_alloc | apply Kd.R_drewN | apply Kd.R_drew)); exact HO_4.out)) k_ hk⟩)); (case aO => exact (by (with_reducible repeat (first | apply Kd.R_alloc | apply Kd.R_drewN | apply Kd.R_drew)); exact HO_6.out)); (case aS => exact (below_size (by repeat (first | (with_reducible first | exact HB.out | apply below_alloc | apply pw_below_drewN | apply below_drew1) | exact HB.out)))); (case aL => have := LMc60.out; omega); intro v325 w62 ho hb hg hat; rw [← Ny324.out] at ho; have n0_ := Aside0.mk (Kd.R_after (ok := (fun k_ => some k_ ≠ (.slice (some ad315) t284.length co61 : Value).ownBlock)) (by (with_reducible repeat (first | apply Kd.R_alloc | apply Kd.R_drewN | apply Kd.R_drew)); exact HO_3.out) hg hat); have n1_ := Aside0.mk (Kd.R_after (ok := (fun k_ => some k_ ≠ (.slice (some ad316) t281.length co10 : Value).ownBlock)) (by (with_reducible repeat (first | apply Kd.R_alloc | apply Kd.R_drewN | apply Kd.R_drew)); exact HO_4.out) hg hat); have n2_ := Aside0.mk (hb); have n3_ := Aside0.mk (ho); clear HO_3; clear HO_4; clear HB; clear HO_6; have HO_3 := n0_; have HO_4 := n1_; have HB := n2_; have HO326 := n3_; clear n0_ n1_ n2_ n3_; clear ho hb hg hat))
                              go_roundg kj8
                              case measure => have := HK1.out; have := HJ8.out; omega
                              case rel => exact ⟨(y324), (wrap64 (x7_1 + 1)), (by first | rfl | (simp; done) | (simp [*]; done)), H', ⟨by have := HK1.out; have := HJ8.out; omega⟩, ⟨by (with_reducible repeat (first | apply Kd.R_alloc | apply Kd.R_drewN | apply Kd.R_drew)); exact HO_3.out⟩, ⟨by (with_reducible repeat (first | apply Kd.R_alloc | apply Kd.R_drewN | apply Kd.R_drew)); exact HO_4.out⟩, ⟨by (with_reducible repeat (first | apply Kd.R_alloc | apply Kd.R_drewN | apply Kd.R_drew)); exact HO326.out⟩, ⟨by repeat (first | (with_reducible first | exact HB.out | apply below_alloc | apply pw_below_drewN | apply below_drew1) | exact HB.out)⟩⟩
                            · rw [if_neg c60] at H
                              exact absurd H (by simp)
                        · rw [if_neg c55] at H
                          have c55b0 : ((rd t284 x7_1) == 1) = false := beq_eq_false_iff_ne.mpr c55
                          have c55b1 : ((rd t284 x7_1) != 1) = true := bne_iff_ne.mpr c55
                          by_cases c63 : x6_1.length < 17592186044416
                          · rw [if_pos c63] at H
                            have LMc63 := Aside0.mk c63
                            clear c63
                            obtain ⟨y327, hy327⟩ : ∃ y_ : List Int, y_ = (x6_1 ++ [0]) := ⟨_, rfl⟩
                            replace H : (abugidaref07_Levels.l0 kj8 t281 t284 t287 y327 (wrap64 (x7_1 + 1))) = some r := by first | (rw [hy327]; with_reducible exact H) | (have H2_ := (Option.bind_some _ _).symm.trans H; rw [hy327]; with_reducible exact H2_) | (have H2_ := (Option.bind_some _ _).symm.trans H; with_reducible exact H2_) | with_reducible exact H | (rw [hy327]; exact H) | exact H
                            have Ny327 := Aside0.mk hy327
                            clear hy327
                            have H' := Aside0.mk H
                            clear H
                            obtain ⟨Ao64, co64, eo64⟩ := Kd.R_slice HO_4.out
                            subst eo64
                            have p315 : 0 ≤ (x7_1 : Int) := of_decide_eq_true (by first | (with_reducible assumption) | assumption)
                            have q315 : x7_1 < (t284.length : Int) := of_decide_eq_true (by first | (with_reducible assumption) | assumption)
                            obtain ⟨ad315, e315, hx315_0⟩ := Kd.at_int (Kd.R_reads' HO_4.out).2.2 x7_1 p315 q315
                            cases e315
                            replace p315 := eq_true p315
                            replace q315 := eq_true q315
                            have p316 : 0 ≤ (x7_1 : Int) := of_decide_eq_true (by first | (with_reducible assumption) | assumption)
                            have q316 : x7_1 < (t281.length : Int) := of_decide_eq_true (by first | (with_reducible assumption) | assumption)
                            obtain ⟨ad316, e316, hx316_0⟩ := Kd.at_int (Kd.R_reads' HO_3.out).2.2 x7_1 p316 q316
                            cases e316
                            replace p316 := eq_true p316
                            replace q316 := eq_true q316
                            have p320 : 0 ≤ (x7_1 : Int) := of_decide_eq_true (by first | (with_reducible assumption) | assumption)
                            have q320 : x7_1 < (t284.length : Int) := of_decide_eq_true (by first | (with_reducible assumption) | assumption)
                            obtain ⟨ad320, e320, hx320_0⟩ := Kd.at_int (Kd.R_reads' HO_4.out).2.2 x7_1 p320 q320
                            obtain rfl : ad315 = ad320 := (by injection e320)
                            replace p320 := eq_true p320
                            replace q320 := eq_true q320
                            go_wp2_with (first | ((with_reducible refine gate_builtin (b := .append) (xs := #[.tmp 56, .tmp 58]) rfl ?_); at_builtin; refine Kd.R_append (Kd.int .i64) (w0 := w) w.heap.size rfl (.tmp 56) (.tmp 58) 26 3 (.int .i64 0) 8 rfl Try.underlying26 info3 rfl (by decide) (by omega) u6 x6_1 0 [.int .i64 0] (fun k_ => some k_ ≠ (.slice (some ad316) t281.length co10 : Value).ownBlock ∧ some k_ ≠ (.slice (some ad315) t284.length co64 : Value).ownBlock) (fun _ => False) rfl rfl ?aP (fun _ hk => hk.elim) ?aF ?aO ?aB ?aS ?aL ?_; (case aP => exact rfl); (case aB => exact (by repeat (first | (with_reducible first | exact HB.out | apply below_alloc | apply pw_below_drewN | apply below_drew1) | exact HB.out))); (case aF => exact (fun k_ hk => ⟨Kd.fresh' (Kd.R_lt (by (with_reducible repeat (first | apply Kd.R_alloc | apply Kd.R_drewN | apply Kd.R_drew)); exact HO_3.out)) k_ hk, Kd.fresh' (Kd.R_lt (by (with_reducible repeat (first | apply Kd.R_alloc | apply Kd.R_drewN | apply Kd.R_drew)); exact HO_4.out)) k_ hk⟩)); (case aO => exact (by (with_reducible repeat (first | apply Kd.R_alloc | apply Kd.R_drewN | apply Kd.R_drew)); exact HO_6.out)); (case aS => exact (below_size (by repeat (first | (with_reducible first | exact HB.out | apply below_alloc | apply pw_below_drewN | apply below_drew1) | exact HB.out)))); (case aL => have := LMc63.out; omega); intro v328 w65 ho hb hg hat; rw [← Ny327.out] at ho; have n0_ := Aside0.mk (Kd.R_after (ok := (fun k_ => some k_ ≠ (.slice (some ad315) t284.length co64 : Value).ownBlock)) (by (with_reducible repeat (first | apply Kd.R_alloc | apply Kd.R_drewN | apply Kd.R_drew)); exact HO_3.out) hg hat); have n1_ := Aside0.mk (Kd.R_after (ok := (fun k_ => some k_ ≠ (.slice (some ad316) t281.length co10 : Value).ownBlock)) (by (with_reducible repeat (first | apply Kd.R_alloc | apply Kd.R_drewN | apply Kd.R_drew)); exact HO_4.out) hg hat); have n2_ := Aside0.mk (hb); have n3_ := Aside0.mk (ho); clear HO_3; clear HO_4; clear HB; clear HO_6; have HO_3 := n0_; have HO_4 := n1_; have HB := n2_; have HO329 := n3_; clear n0_ n1_ n2_ n3_; clear ho hb hg hat))
                            go_roundg kj8
                            case measure => have := HK1.out; have := HJ8.out; omega
                            case rel => exact ⟨(y327), (wrap64 (x7_1 + 1)), (by first | rfl | (simp; done) | (simp [*]; done)), H', ⟨by have := HK1.out; have := HJ8.out; omega⟩, ⟨by (with_reducible repeat (first | apply Kd.R_alloc | apply Kd.R_drewN | apply Kd.R_drew)); exact HO_3.out⟩, ⟨by (with_reducible repeat (first | apply Kd.R_alloc | apply Kd.R_drewN | apply Kd.R_drew)); exact HO_4.out⟩, ⟨by (with_reducible repeat (first | apply Kd.R_alloc | apply Kd.R_drewN | apply Kd.R_drew)); exact HO329.out⟩, ⟨by repeat (first | (with_reducible first | exact HB.out | apply below_alloc | apply pw_below_drewN | apply below_drew1) | exact HB.out)⟩⟩
                          · rw [if_neg c63] at H
                            exact absurd H (by simp)
                    · rw [if_neg c50] at H
                      exact absurd H (by simp)
                  · rw [if_neg c49] at H
                    have c49b0 : ((rd t284 x7_1) == 2) = false := beq_eq_false_iff_ne.mpr c49
                    have c49b1 : ((rd t284 x7_1) != 2) = true := bne_iff_ne.mpr c49
                    by_cases c66 : (rd t284 x7_1) = 1
                    · rw [if_pos c66] at H
                      have c66b0 : ((rd t284 x7_1) == 1) = true := beq_iff_eq.mpr c66
                      have c66b1 : ((rd t284 x7_1) != 1) = false := bne_eq_false_iff_eq.mpr c66
                      clear c66
                      by_cases c67 : t287 = 2
                      · rw [if_pos c67] at H
                        have c67b0 : (t287 == 2) = true := beq_iff_eq.mpr c67
                        have c67b1 : (t287 != 2) = false := bne_eq_false_iff_eq.mpr c67
                        clear c67
                        by_cases c68 : x6_1.length < 17592186044416
                        · rw [if_pos c68] at H
                          have LMc68 := Aside0.mk c68
                          clear c68
                          obtain ⟨y331, hy331⟩ : ∃ y_ : List Int, y_ = (x6_1 ++ [2]) := ⟨_, rfl⟩
                          replace H : (abugidaref07_Levels.l0 kj8 t281 t284 t287 y331 (wrap64 (x7_1 + 1))) = some r := by first | (rw [hy331]; with_reducible exact H) | (have H2_ := (Option.bind_some _ _).symm.trans H; rw [hy331]; with_reducible exact H2_) | (have H2_ := (Option.bind_some _ _).symm.trans H; with_reducible exact H2_) | with_reducible exact H | (rw [hy331]; exact H) | exact H
                          have Ny331 := Aside0.mk hy331
                          clear hy331
                          have H' := Aside0.mk H
                          clear H
                          obtain ⟨Ao69, co69, eo69⟩ := Kd.R_slice HO_4.out
                          subst eo69
                          have p315 : 0 ≤ (x7_1 : Int) := of_decide_eq_true (by first | (with_reducible assumption) | assumption)
                          have q315 : x7_1 < (t284.length : Int) := of_decide_eq_true (by first | (with_reducible assumption) | assumption)
                          obtain ⟨ad315, e315, hx315_0⟩ := Kd.at_int (Kd.R_reads' HO_4.out).2.2 x7_1 p315 q315
                          cases e315
                          replace p315 := eq_true p315
                          replace q315 := eq_true q315
                          have p330 : 0 ≤ (x7_1 : Int) := of_decide_eq_true (by first | (with_reducible assumption) | assumption)
                          have q330 : x7_1 < (t284.length : Int) := of_decide_eq_true (by first | (with_reducible assumption) | assumption)
                          obtain ⟨ad330, e330, hx330_0⟩ := Kd.at_int (Kd.R_reads' HO_4.out).2.2 x7_1 p330 q330
                          obtain rfl : ad315 = ad330 := (by injection e330)
                          replace p330 := eq_true p330
                          replace q330 := eq_true q330
                          go_wp2_with (first | ((with_reducible refine gate_builtin (b := .append) (xs := #[.tmp 56, .tmp 58]) rfl ?_); at_builtin; refine Kd.R_append (Kd.int .i64) (w0 := w) w.heap.size rfl (.tmp 56) (.tmp 58) 26 3 (.int .i64 0) 8 rfl Try.underlying26 info3 rfl (by decide) (by omega) u6 x6_1 2 [.int .i64 2] (fun k_ => some k_ ≠ (.slice Ao10 t281.length co10 : Value).ownBlock ∧ some k_ ≠ (.slice (some ad315) t284.length co69 : Value).ownBlock) (fun _ => False) rfl rfl ?aP (fun _ hk => hk.elim) ?aF ?aO ?aB ?aS ?aL ?_; (case aP => exact rfl); (case aB => exact (by repeat (first | (with_reducible first | exact HB.out | apply below_alloc | apply pw_below_drewN | apply below_drew1) | exact HB.out))); (case aF => exact (fun k_ hk => ⟨Kd.fresh' (Kd.R_lt (by (with_reducible repeat (first | apply Kd.R_alloc | apply Kd.R_drewN | apply Kd.R_drew)); exact HO_3.out)) k_ hk, Kd.fresh' (Kd.R_lt (by (with_reducible repeat (first | apply Kd.R_alloc | apply Kd.R_drewN | apply Kd.R_drew)); exact HO_4.out)) k_ hk⟩)); (case aO => exact (by (with_reducible repeat (first | apply Kd.R_alloc | apply Kd.R_drewN | apply Kd.R_drew)); exact HO_6.out)); (case aS => exact (below_size (by repeat (first | (with_reducible first | exact HB.out | apply below_alloc | apply pw_below_drewN | apply below_drew1) | exact HB.out)))); (case aL => have := LMc68.out; omega); intro v332 w70 ho hb hg hat; rw [← Ny331.out] at ho; have n0_ := Aside0.mk (Kd.R_after (ok := (fun k_ => some k_ ≠ (.slice (some ad315) t284.length co69 : Value).ownBlock)) (by (with_reducible repeat (first | apply Kd.R_alloc | apply Kd.R_drewN | apply Kd.R_drew)); exact HO_3.out) hg hat); have n1_ := Aside0.mk (Kd.R_after (ok := (fun k_ => some k_ ≠ (.slice Ao10 t281.length co10 : Value).ownBlock)) (by (with_reducible repeat (first | apply Kd.R_alloc | apply Kd.R_drewN | apply Kd.R_drew)); exact HO_4.out) hg hat); have n2_ := Aside0.mk (hb); have n3_ := Aside0.mk (ho); clear HO_3; clear HO_4; clear HB; clear HO_6; have HO_3 := n0_; have HO_4 := n1_; have HB := n2_; have HO333 := n3_; clear n0_ n1_ n2_ n3_; clear ho hb hg hat))
                          go_roundg kj8
                          case measure => have := HK1.out; have := HJ8.out; omega
                          case rel => exact ⟨(y331), (wrap64 (x7_1 + 1)), (by first | rfl | (simp; done) | (simp [*]; done)), H', ⟨by have := HK1.out; have := HJ8.out; omega⟩, ⟨by (with_reducible repeat (first | apply Kd.R_alloc | apply Kd.R_drewN | apply Kd.R_drew)); exact HO_3.out⟩, ⟨by (with_reducible repeat (first | apply Kd.R_alloc | apply Kd.R_drewN | apply Kd.R_drew)); exact HO_4.out⟩, ⟨by (with_reducible repeat (first | apply Kd.R_alloc | apply Kd.R_drewN | apply Kd.R_drew)); exact HO333.out⟩, ⟨by repeat (first | (with_reducible first | exact HB.out | apply below_alloc | apply pw_below_drewN | apply below_drew1) | exact HB.out)⟩⟩
                        · rw [if_neg c68] at H
                          exact absurd H (by simp)
                      · rw [if_neg c67] at H
                        have c67b0 : (t287 == 2) = false := beq_eq_false_iff_ne.mpr c67
                        have c67b1 : (t287 != 2) = true := bne_iff_ne.mpr c67
                        by_cases c71 : x6_1.length < 17592186044416
                        · rw [if_pos c71] at H
                          have LMc71 := Aside0.mk c71
                          clear c71
                          obtain ⟨y334, hy334⟩ : ∃ y_ : List Int, y_ = (x6_1 ++ [0]) := ⟨_, rfl⟩
                          replace H : (abugidaref07_Levels.l0 kj8 t281 t284 t287 y334 (wrap64 (x7_1 + 1))) = some r := by first | (rw [hy334]; with_reducible exact H) | (have H2_ := (Option.bind_some _ _).symm.trans H; rw [hy334]; with_reducible exact H2_) | (have H2_ := (Option.bind_some _ _).symm.trans H; with_reducible exact H2_) | with_reducible exact H | (rw [hy334]; exact H) | exact H
                          have Ny334 := Aside0.mk hy334
                          clear hy334
                          have H' := Aside0.mk H
                          clear H
                          obtain ⟨Ao72, co72, eo72⟩ := Kd.R_slice HO_4.out
                          subst eo72
                          have p315 : 0 ≤ (x7_1 : Int) := of_decide_eq_true (by first | (with_reducible assumption) | assumption)
                          have q315 : x7_1 < (t284.length : Int) := of_decide_eq_true (by first | (with_reducible assumption) | assumption)
                          obtain ⟨ad315, e315, hx315_0⟩ := Kd.at_int (Kd.R_reads' HO_4.out).2.2 x7_1 p315 q315
                          cases e315
                          replace p315 := eq_true p315
                          replace q315 := eq_true q315
                          have p330 : 0 ≤ (x7_1 : Int) := of_decide_eq_true (by first | (with_reducible assumption) | assumption)
                          have q330 : x7_1 < (t284.length : Int) := of_decide_eq_true (by first | (with_reducible assumption) | assumption)
                          obtain ⟨ad330, e330, hx330_0⟩ := Kd.at_int (Kd.R_reads' HO_4.out).2.2 x7_1 p330 q330
                          obtain rfl : ad315 = ad330 := (by injection e330)
                          replace p330 := eq_true p330
                          replace q330 := eq_true q330
                          go_wp2_with (first | ((with_reducible refine gate_builtin (b := .append) (xs := #[.tmp 56, .tmp 58]) rfl ?_); at_builtin; refine Kd.R_append (Kd.int .i64) (w0 := w) w.heap.size rfl (.tmp 56) (.tmp 58) 26 3 (.int .i64 0) 8 rfl Try.underlying26 info3 rfl (by decide) (by omega) u6 x6_1 0 [.int .i64 0] (fun k_ => some k_ ≠ (.slice Ao10 t281.length co10 : Value).ownBlock ∧ some k_ ≠ (.slice (some ad315) t284.length co72 : Value).ownBlock) (fun _ => False) rfl rfl ?aP (fun _ hk => hk.elim) ?aF ?aO ?aB ?aS ?aL ?_; (case aP => exact rfl); (case aB => exact (by repeat (first | (with_reducible first | exact HB.out | apply below_alloc | apply pw_below_drewN | apply below_drew1) | exact HB.out))); (case aF => exact (fun k_ hk => ⟨Kd.fresh' (Kd.R_lt (by (with_reducible repeat (first | apply Kd.R_alloc | apply Kd.R_drewN | apply Kd.R_drew)); exact HO_3.out)) k_ hk, Kd.fresh' (Kd.R_lt (by (with_reducible repeat (first | apply Kd.R_alloc | apply Kd.R_drewN | apply Kd.R_drew)); exact HO_4.out)) k_ hk⟩)); (case aO => exact (by (with_reducible repeat (first | apply Kd.R_alloc | apply Kd.R_drewN | apply Kd.R_drew)); exact HO_6.out)); (case aS => exact (below_size (by repeat (first | (with_reducible first | exact HB.out | apply below_alloc | apply pw_below_drewN | apply below_drew1) | exact HB.out)))); (case aL => have := LMc71.out; omega); intro v335 w73 ho hb hg hat; rw [← Ny334.out] at ho; have n0_ := Aside0.mk (Kd.R_after (ok := (fun k_ => some k_ ≠ (.slice (some ad315) t284.length co72 : Value).ownBlock)) (by (with_reducible repeat (first | apply Kd.R_alloc | apply Kd.R_drewN | apply Kd.R_drew)); exact HO_3.out) hg hat); have n1_ := Aside0.mk (Kd.R_after (ok := (fun k_ => some k_ ≠ (.slice Ao10 t281.length co10 : Value).ownBlock)) (by (with_reducible repeat (first | apply Kd.R_alloc | apply Kd.R_drewN | apply Kd.R_drew)); exact HO_4.out) hg hat); have n2_ := Aside0.mk (hb); have n3_ := Aside0.mk (ho); clear HO_3; clear HO_4; clear HB; clear HO_6; have HO_3 := n0_; have HO_4 := n1_; have HB := n2_; have HO336 := n3_; clear n0_ n1_ n2_ n3_; clear ho hb hg hat))
                          go_roundg kj8
                          case measure => have := HK1.out; have := HJ8.out; omega
                          case rel => exact ⟨(y334), (wrap64 (x7_1 + 1)), (by first | rfl | (simp; done) | (simp [*]; done)), H', ⟨by have := HK1.out; have := HJ8.out; omega⟩, ⟨by (with_reducible repeat (first | apply Kd.R_alloc | apply Kd.R_drewN | apply Kd.R_drew)); exact HO_3.out⟩, ⟨by (with_reducible repeat (first | apply Kd.R_alloc | apply Kd.R_drewN | apply Kd.R_drew)); exact HO_4.out⟩, ⟨by (with_reducible repeat (first | apply Kd.R_alloc | apply Kd.R_drewN | apply Kd.R_drew)); exact HO336.out⟩, ⟨by repeat (first | (with_reducible first | exact HB.out | apply below_alloc | apply pw_below_drewN | apply below_drew1) | exact HB.out)⟩⟩
                        · rw [if_neg c71] at H
                          exact absurd H (by simp)
                    · rw [if_neg c66] at H
                      have c66b0 : ((rd t284 x7_1) == 1) = false := beq_eq_false_iff_ne.mpr c66
                      have c66b1 : ((rd t284 x7_1) != 1) = true := bne_iff_ne.mpr c66
                      by_cases c74 : x6_1.length < 17592186044416
                      · rw [if_pos c74] at H
                        have LMc74 := Aside0.mk c74
                        clear c74
                        obtain ⟨y337, hy337⟩ : ∃ y_ : List Int, y_ = (x6_1 ++ [0]) := ⟨_, rfl⟩
                        replace H : (abugidaref07_Levels.l0 kj8 t281 t284 t287 y337 (wrap64 (x7_1 + 1))) = some r := by first | (rw [hy337]; with_reducible exact H) | (have H2_ := (Option.bind_some _ _).symm.trans H; rw [hy337]; with_reducible exact H2_) | (have H2_ := (Option.bind_some _ _).symm.trans H; with_reducible exact H2_) | with_reducible exact H | (rw [hy337]; exact H) | exact H
                        have Ny337 := Aside0.mk hy337
                        clear hy337
                        have H' := Aside0.mk H
                        clear H
                        obtain ⟨Ao75, co75, eo75⟩ := Kd.R_slice HO_4.out
                        subst eo75
                        have p315 : 0 ≤ (x7_1 : Int) := of_decide_eq_true (by first | (with_reducible assumption) | assumption)
                        have q315 : x7_1 < (t284.length : Int) := of_decide_eq_true (by first | (with_reducible assumption) | assumption)
                        obtain ⟨ad315, e315, hx315_0⟩ := Kd.at_int (Kd.R_reads' HO_4.out).2.2 x7_1 p315 q315
                        cases e315
                        replace p315 := eq_true p315
                        replace q315 := eq_true q315
                        have p330 : 0 ≤ (x7_1 : Int) := of_decide_eq_true (by first | (with_reducible assumption) | assumption)
                        have q330 : x7_1 < (t284.length : Int) := of_decide_eq_true (by first | (with_reducible assumption) | assumption)
                        obtain ⟨ad330, e330, hx330_0⟩ := Kd.at_int (Kd.R_reads' HO_4.out).2.2 x7_1 p330 q330
                        obtain rfl : ad315 = ad330 := (by injection e330)
                        replace p330 := eq_true p330
                        replace q330 := eq_true q330
                        go_wp2_with (first | ((with_reducible refine gate_builtin (b := .append) (xs := #[.tmp 56, .tmp 58]) rfl ?_); at_builtin; refine Kd.R_append (Kd.int .i64) (w0 := w) w.heap.size rfl (.tmp 56) (.tmp 58) 26 3 (.int .i64 0) 8 rfl Try.underlying26 info3 rfl (by decide) (by omega) u6 x6_1 0 [.int .i64 0] (fun k_ => some k_ ≠ (.slice Ao10 t281.length co10 : Value).ownBlock ∧ some k_ ≠ (.slice (some ad315) t284.length co75 : Value).ownBlock) (fun _ => False) rfl rfl ?aP (fun _ hk => hk.elim) ?aF ?aO ?aB ?aS ?aL ?_; (case aP => exact rfl); (case aB => exact (by repeat (first | (with_reducible first | exact HB.out | apply below_alloc | apply pw_below_drewN | apply below_drew1) | exact HB.out))); (case aF => exact (fun k_ hk => ⟨Kd.fresh' (Kd.R_lt (by (with_reducible repeat (first | apply Kd.R_alloc | apply Kd.R_drewN | apply Kd.R_drew)); exact HO_3.out)) k_ hk, Kd.fresh' (Kd.R_lt (by (with_reducible repeat (first | apply Kd.R_alloc | apply Kd.R_drewN | apply Kd.R_drew)); exact HO_4.out)) k_ hk⟩)); (case aO => exact (by (with_reducible repeat (first | apply Kd.R_alloc | apply Kd.R_drewN | apply Kd.R_drew)); exact HO_6.out)); (case aS => exact (below_size (by repeat (first | (with_reducible first | exact HB.out | apply below_alloc | apply pw_below_drewN | apply below_drew1) | exact HB.out)))); (case aL => have := LMc74.out; omega); intro v338 w76 ho hb hg hat; rw [← Ny337.out] at ho; have n0_ := Aside0.mk (Kd.R_after (ok := (fun k_ => some k_ ≠ (.slice (some ad315) t284.length co75 : Value).ownBlock)) (by (with_reducible repeat (first | apply Kd.R_alloc | apply Kd.R_drewN | apply Kd.R_drew)); exact HO_3.out) hg hat); have n1_ := Aside0.mk (Kd.R_after (ok := (fun k_ => some k_ ≠ (.slice Ao10 t281.length co10 : Value).ownBlock)) (by (with_reducible repeat (first | apply Kd.R_alloc | apply Kd.R_drewN | apply Kd.R_drew)); exact HO_4.out) hg hat); have n2_ := Aside0.mk (hb); have n3_ := Aside0.mk (ho); clear HO_3; clear HO_4; clear HB; clear HO_6; have HO_3 := n0_; have HO_4 := n1_; have HB := n2_; have HO339 := n3_; clear n0_ n1_ n2_ n3_; clear ho hb hg hat))
                        go_roundg kj8
                        case measure => have := HK1.out; have := HJ8.out; omega
                        case rel => exact ⟨(y337), (wrap64 (x7_1 + 1)), (by first | rfl | (simp; done) | (simp [*]; done)), H', ⟨by have := HK1.out; have := HJ8.out; omega⟩, ⟨by (with_reducible repeat (first | apply Kd.R_alloc | apply Kd.R_drewN | apply Kd.R_drew)); exact HO_3.out⟩, ⟨by (with_reducible repeat (first | apply Kd.R_alloc | apply Kd.R_drewN | apply Kd.R_drew)); exact HO_4.out⟩, ⟨by (with_reducible repeat (first | apply Kd.R_alloc | apply Kd.R_drewN | apply Kd.R_drew)); exact HO339.out⟩, ⟨by repeat (first | (with_reducible first | exact HB.out | apply below_alloc | apply pw_below_drewN | apply below_drew1) | exact HB.out)⟩⟩
                      · rw [if_neg c74] at H
                        exact absurd H (by simp)
                · rw [if_neg c48] at H
                  exact absurd H (by simp)
              · rw [if_neg c47] at H
                exact absurd H (by simp)
      · rw [if_neg c8] at H
        have c8b0 : decide (x7_1 < (t281.length : Int)) = false := decide_eq_false c8
        clear c8
        obtain rfl := Option.some.inj H
        obtain ⟨Ao77, co77, eo77⟩ := Kd.R_slice HO_3.out
        subst eo77
        go_wp2
        go_ret
        exact ⟨_, by first | rfl | (simp [errW_none, errW_some] <;> rfl) | (simp [*, errW_none, errW_some] <;> rfl), by (with_reducible repeat (first | apply Kd.R_alloc | apply Kd.R_drewN | apply Kd.R_drew)); exact Kd.R_mono HO_6.out (fun _ hk => trivial), by repeat (first | (with_reducible first | exact HB.out | apply below_alloc | apply pw_below_drewN | apply below_drew1) | exact HB.out)⟩

end Go.Proofs.Ytacnckneiklgpaa.Q

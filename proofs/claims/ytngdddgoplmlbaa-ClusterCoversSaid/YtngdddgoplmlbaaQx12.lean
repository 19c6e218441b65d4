-- Written by wip/tools/myprint.py, a program of this session that drives the kit's print.py; not a text of print.sh.
import Derived.Test.YtngdddgoplmlbaaQx0
import Derived.Test.YtngdddgoplmlbaaQx3
import Derived.Test.YtngdddgoplmlbaaQx5
import Derived.Test.YtngdddgoplmlbaaQx7
namespace Go.Proofs.Ytngdddgoplmlbaa.Q
open Go.RowKit Go.Proofs.YtngdddgoplmlbaaW.PrintWords Go.Proofs.YtngdddgoplmlbaaW.PrintLast Go.Proofs.YtngdddgoplmlbaaW.PrintMore
attribute [local go_sem] max2_int min2_int max_two min_two max_three min_three max_four min_four   -- for this text's walks alone
set_option linter.unusedVariables false
set_option linter.unusedSimpArgs false

/-! ### abugidalaw06_ClusterCovers: function 5 -/
mutual
def abugidalaw06_ClusterCovers.l0 : Nat → Bool → ByteArray → Int → List (S30) → Int → Int → Option (Bool)
  | 0, _, _, _, _, _, _ => none
  | k + 1, x3, x4, x5, x13, x14, x15 => if x15 < x14 then (if 0 ≤ x15 then (if x15 < (x13.length : Int) then (if ((rd_T30 x13 x15).f0) = x5 then (if ((rd_T30 x13 x15).f1) ≤ ((rd_T30 x13 x15).f0) then (abugidalaw06_ClusterCovers.j1 k x3 x4 x15 x13 x14 x15 true ((rd_T30 x13 x15).f0) ((rd_T30 x13 x15).f1)) else (if ((rd_T30 x13 x15).f1) > (x4.size : Int) then (abugidalaw06_ClusterCovers.j1 k x3 x4 x15 x13 x14 x15 true ((rd_T30 x13 x15).f0) ((rd_T30 x13 x15).f1)) else (abugidalaw06_ClusterCovers.j1 k x3 x4 x15 x13 x14 x15 (decide ((wrap64 (((rd_T30 x13 x15).f1) - ((rd_T30 x13 x15).f0))) > 6)) ((rd_T30 x13 x15).f0) ((rd_T30 x13 x15).f1)))) else (abugidalaw06_ClusterCovers.j1 k x3 x4 x15 x13 x14 x15 true ((rd_T30 x13 x15).f0) ((rd_T30 x13 x15).f1))) else (none)) else (none)) else (if x3 = true then (some (x5 == (x4.size : Int))) else (some false))
def abugidalaw06_ClusterCovers.j1 : Nat → Bool → ByteArray → Int → List (S30) → Int → Int → Bool → Int → Int → Option (Bool)
  | 0, _, _, _, _, _, _, _, _, _ => none
  | k + 1, x3, x4, x6, x13, x14, x15, x45, x241000, x241001 => if x45 = true then (some false) else (abugidalaw06_ClusterCovers.l1 k x3 x4 x6 x241000 x13 x14 x15 x241000 x241001)
def abugidalaw06_ClusterCovers.l1 : Nat → Bool → ByteArray → Int → Int → List (S30) → Int → Int → Int → Int → Option (Bool)
  | 0, _, _, _, _, _, _, _, _, _ => none
  | k + 1, x3, x4, x6, x8, x13, x14, x15, x241000, x241001 => if x8 < x241001 then ((cluster_At.f x4 x8).bind fun t241 => (if t241 = x6 then (abugidalaw06_ClusterCovers.l1 k x3 x4 x6 (wrap64 (x8 + 1)) x13 x14 x15 x241000 x241001) else (some false))) else (abugidalaw06_ClusterCovers.l0 k x3 x4 x241001 x13 x14 (wrap64 (x15 + 1)))
end
def abugidalaw06_ClusterCovers.f (k : Nat) (l0 : List Int) : Option (Bool) := (abugidalaw06_sanity.f k).bind fun t234 => ((abugidaref06_Made.f k l0 60).bind fun t235 => ((cluster_Split.f t235).bind fun t236 => (abugidalaw06_ClusterCovers.l0 k t234 t235 0 t236 (t236.length : Int) 0)))
theorem abugidalaw06_ClusterCovers.mono_l : ∀ k, (∀ y0 y1 y2 y3 y4 y5, LeO (abugidalaw06_ClusterCovers.l0 k y0 y1 y2 y3 y4 y5) (abugidalaw06_ClusterCovers.l0 (k + 1) y0 y1 y2 y3 y4 y5)) ∧ (∀ y0 y1 y2 y3 y4 y5 y6 y7 y8, LeO (abugidalaw06_ClusterCovers.j1 k y0 y1 y2 y3 y4 y5 y6 y7 y8) (abugidalaw06_ClusterCovers.j1 (k + 1) y0 y1 y2 y3 y4 y5 y6 y7 y8)) ∧ (∀ y0 y1 y2 y3 y4 y5 y6 y7 y8, LeO (abugidalaw06_ClusterCovers.l1 k y0 y1 y2 y3 y4 y5 y6 y7 y8) (abugidalaw06_ClusterCovers.l1 (k + 1) y0 y1 y2 y3 y4 y5 y6 y7 y8))
  | 0 => ⟨fun _ _ _ _ _ _ r h => by simp [abugidalaw06_ClusterCovers.l0] at h, fun _ _ _ _ _ _ _ _ _ r h => by simp [abugidalaw06_ClusterCovers.j1] at h, fun _ _ _ _ _ _ _ _ _ r h => by simp [abugidalaw06_ClusterCovers.l1] at h⟩
  | k + 1 => by
    obtain ⟨ih0, ih1, ih2⟩ := abugidalaw06_ClusterCovers.mono_l k
    refine ⟨?_, ?_, ?_⟩
    · intro y0 y1 y2 y3 y4 y5
      unfold abugidalaw06_ClusterCovers.l0
      repeat' first
      | (with_reducible exact ih0 _ _ _ _ _ _)
      | (with_reducible exact ih1 _ _ _ _ _ _ _ _ _)
      | (with_reducible exact ih2 _ _ _ _ _ _ _ _ _)
      | (with_reducible exact abugidalaw06_sanity.mono _)
      | (with_reducible exact abugidaref06_Made.mono _ _ _)
      | (with_reducible exact LeO.refl _)
      | (with_reducible exact LeO.none _)
      | (with_reducible refine LeO.ite ?_ ?_)
      | (with_reducible refine LeO.bind ?_ (fun _ => ?_))
      | exact ih0 _ _ _ _ _ _
      | exact ih1 _ _ _ _ _ _ _ _ _
      | exact ih2 _ _ _ _ _ _ _ _ _
      | exact abugidalaw06_sanity.mono _
      | exact abugidaref06_Made.mono _ _ _
      | exact LeO.none _
      | refine LeO.ite ?_ ?_
      | refine LeO.bind ?_ (fun _ => ?_)
    · intro y0 y1 y2 y3 y4 y5 y6 y7 y8
      unfold abugidalaw06_ClusterCovers.j1
      repeat' first
      | (with_reducible exact ih0 _ _ _ _ _ _)
      | (with_reducible exact ih1 _ _ _ _ _ _ _ _ _)
      | (with_reducible exact ih2 _ _ _ _ _ _ _ _ _)
      | (with_reducible exact abugidalaw06_sanity.mono _)
      | (with_reducible exact abugidaref06_Made.mono _ _ _)
      | (with_reducible exact LeO.refl _)
      | (with_reducible exact LeO.none _)
      | (with_reducible refine LeO.ite ?_ ?_)
      | (with_reducible refine LeO.bind ?_ (fun _ => ?_))
      | exact ih0 _ _ _ _ _ _
      | exact ih1 _ _ _ _ _ _ _ _ _
      | exact ih2 _ _ _ _ _ _ _ _ _
      | exact abugidalaw06_sanity.mono _
      | exact abugidaref06_Made.mono _ _ _
      | exact LeO.none _
      | refine LeO.ite ?_ ?_
      | refine LeO.bind ?_ (fun _ => ?_)
    · intro y0 y1 y2 y3 y4 y5 y6 y7 y8
      unfold abugidalaw06_ClusterCovers.l1
      repeat' first
      | (with_reducible exact ih0 _ _ _ _ _ _)
      | (with_reducible exact ih1 _ _ _ _ _ _ _ _ _)
      | (with_reducible exact ih2 _ _ _ _ _ _ _ _ _)
      | (with_reducible exact abugidalaw06_sanity.mono _)
      | (with_reducible exact abugidaref06_Made.mono _ _ _)
      | (with_reducible exact LeO.refl _)
      | (with_reducible exact LeO.none _)
      | (with_reducible refine LeO.ite ?_ ?_)
      | (with_reducible refine LeO.bind ?_ (fun _ => ?_))
      | exact ih0 _ _ _ _ _ _
      | exact ih1 _ _ _ _ _ _ _ _ _
      | exact ih2 _ _ _ _ _ _ _ _ _
      | exact abugidalaw06_sanity.mono _
      | exact abugidaref06_Made.mono _ _ _
      | exact LeO.none _
      | refine LeO.ite ?_ ?_
      | refine LeO.bind ?_ (fun _ => ?_)
theorem abugidalaw06_ClusterCovers.mono : ∀ a0 k, LeO (abugidalaw06_ClusterCovers.f k a0) (abugidalaw06_ClusterCovers.f (k + 1) a0) := by
  intro a0 k
  obtain ⟨ih0, ih1, ih2⟩ := abugidalaw06_ClusterCovers.mono_l k
  unfold abugidalaw06_ClusterCovers.f
  repeat' first
      | (with_reducible exact ih0 _ _ _ _ _ _)
      | (with_reducible exact ih1 _ _ _ _ _ _ _ _ _)
      | (with_reducible exact ih2 _ _ _ _ _ _ _ _ _)
      | (with_reducible exact abugidalaw06_sanity.mono _)
      | (with_reducible exact abugidaref06_Made.mono _ _ _)
      | (with_reducible exact LeO.refl _)
      | (with_reducible exact LeO.none _)
      | (with_reducible refine LeO.ite ?_ ?_)
      | (with_reducible refine LeO.bind ?_ (fun _ => ?_))
      | exact ih0 _ _ _ _ _ _
      | exact ih1 _ _ _ _ _ _ _ _ _
      | exact ih2 _ _ _ _ _ _ _ _ _
      | exact abugidalaw06_sanity.mono _
      | exact abugidaref06_Made.mono _ _ _
      | exact LeO.none _
      | refine LeO.ite ?_ ?_
      | refine LeO.bind ?_ (fun _ => ?_)
set_option maxHeartbeats 8000000 in
set_option maxRecDepth 100000 in
theorem abugidalaw06_ClusterCovers.calls (k : Nat) (A0 : Option Addr) (c0 : Nat) (l0 : List Int) (r : Bool) (w : World) (hr0 : Kd.C (Kd.int .i64) w A0 l0.length l0) (hc0 : l0.length ≤ c0) (h : abugidalaw06_ClusterCovers.f k l0 = some r) :
    Calls Try.prog 5 #[.slice A0 l0.length c0] w fun e w' => e = .returned (.bool r) ∧ Below w.heap.size w w' := by
  have hu30 := Try.underlying30
  have HR0 := Aside0.mk hr0
  have HC0 := Aside0.mk hc0
  clear hr0 hc0
  have HB := Aside0.mk (Below.refl w.heap.size w)
  have H : ((abugidalaw06_sanity.f k).bind fun t234 => ((abugidaref06_Made.f k l0 60).bind fun t235 => ((cluster_Split.f t235).bind fun t236 => (abugidalaw06_ClusterCovers.l0 k t234 t235 0 t236 (t236.length : Int) 0)))) = some r := h
  clear h
  replace H := Option.bind_eq_some_iff.mp H
  obtain ⟨t234, A20, H⟩ := H
  replace H : ((abugidaref06_Made.f k l0 60).bind fun t235 => ((cluster_Split.f t235).bind fun t236 => (abugidalaw06_ClusterCovers.l0 k t234 t235 0 t236 (t236.length : Int) 0))) = some r := H
  have A2 := Aside0.mk A20
  clear A20
  replace H := Option.bind_eq_some_iff.mp H
  obtain ⟨t235, A30, H⟩ := H
  replace H : ((cluster_Split.f t235).bind fun t236 => (abugidalaw06_ClusterCovers.l0 k t234 t235 0 t236 (t236.length : Int) 0)) = some r := H
  have A3 := Aside0.mk A30
  clear A30
  replace H := Option.bind_eq_some_iff.mp H
  obtain ⟨t236, A40, H⟩ := H
  replace H : (abugidalaw06_ClusterCovers.l0 k t234 t235 0 t236 (t236.length : Int) 0) = some r := H
  have A4 := Aside0.mk A40
  clear A40
  have H' := Aside0.mk H
  clear H
  go_enter Try.func5, Try.ntmps5
  go_wp2_with (first | ((with_reducible refine gate_callee (f := 10) rfl ?_); refine goesL_ (some 9) rfl rfl Try.func10 (by kernel_rfl) rfl #[] rfl (by (try simp only [List.map_toArray, List.map_cons, List.map_nil]); first | done | rfl | (simp only [List.length_drop, List.length_take]; rfl)) ?_; (with_reducible refine (abugidalaw06_sanity.calls k  t234 _ A2.out).mono ?_); rintro e w5 ⟨rfl, hb⟩; refine ⟨_, rfl, ?_⟩; have n0_ := Aside0.mk (below_step (by repeat (first | (with_reducible first | exact HB.out | apply below_alloc | apply pw_below_drewN | apply below_drew1) | exact HB.out)) hb); clear HB; have HB := n0_; clear n0_; (try clear hb); (try clear hb2); (try clear hk); (try clear hi)) | ((with_reducible refine gate_callee (f := 11) rfl ?_); refine goesL_ (some 11) rfl rfl Try.func11 (by kernel_rfl) rfl #[.slice A0 l0.length c0, .int .i64 60] rfl (by (try simp only [List.map_toArray, List.map_cons, List.map_nil]); first | done | rfl | (simp only [List.length_drop, List.length_take]; rfl)) ?_; (with_reducible refine (abugidaref06_Made.calls k _ _ l0 60 t235 _ ?side1 ?side2 A3.out).mono ?_); (case side1 => repeat (first | exact (Kd.C_below HR0.out HB.out) | (with_reducible refine Kd.C_alloc ?_ _) | (with_reducible refine Kd.C_drewN ?_ _) | (with_reducible refine Kd.C_drew ?_))); (case side2 => exact HC0.out); rintro e w6 ⟨rfl, hb⟩; refine ⟨_, rfl, ?_⟩; have n0_ := Aside0.mk (below_step (by repeat (first | (with_reducible first | exact HB.out | apply below_alloc | apply pw_below_drewN | apply below_drew1) | exact HB.out)) hb); clear HB; have HB := n0_; clear n0_; (try clear hb); (try clear hb2); (try clear hk); (try clear hi)) | ((with_reducible refine gate_callee (f := 13) rfl ?_); refine goesL_ (some 13) rfl rfl Try.func13 (by kernel_rfl) rfl #[.string t235] rfl (by (try simp only [List.map_toArray, List.map_cons, List.map_nil]); first | done | rfl | (simp only [List.length_drop, List.length_take]; rfl)) ?_; (with_reducible refine (cluster_Split.calls t235 t236 _ A4.out).mono ?_); rintro e w7 ⟨v237, rfl, ho0, hb⟩; refine ⟨_, rfl, ?_⟩; have n0_ := Aside0.mk (Kd.R_lower ho0 (below_size (by repeat (first | (with_reducible first | exact HB.out | apply below_alloc | apply pw_below_drewN | apply below_drew1) | exact HB.out)))); have n1_ := Aside0.mk (below_step (by repeat (first | (with_reducible first | exact HB.out | apply below_alloc | apply pw_below_drewN | apply below_drew1) | exact HB.out)) hb); clear HB; have HO238 := n0_; have HB := n1_; clear n0_ n1_; (try clear hb); (try clear hb2); (try clear hk); (try clear hi); (try clear ho0); obtain ⟨Ao8, co8, eo8⟩ := Kd.R_slice HO238.out; subst eo8))
  go_loopg [5, 15] k (fun kq v5 v15 w' => ∃ (x5_1 : Int) (x15_1 : Int), v5 = .int .i64 x5_1 ∧ v15 = .int .i64 x15_1 ∧ Aside0 (abugidalaw06_ClusterCovers.l0 kq t234 t235 x5_1 t236 (t236.length : Int) x15_1 = some r) ∧ Aside0 (kq ≤ k) ∧ Aside0 (Kd.R k30 30 w' w.heap.size (fun _ => True) (.slice Ao8 t236.length co8) t236) ∧ Aside0 (Below w.heap.size w w'))
  case atStart => exact ⟨(0), (0), (by first | rfl | (simp; done) | (simp [*]; done)), (by first | rfl | (simp; done) | (simp [*]; done)), H', ⟨Nat.le_refl _⟩, ⟨by (with_reducible repeat (first | apply Kd.R_alloc | apply Kd.R_drewN | apply Kd.R_drew)); exact HO238.out⟩, ⟨by repeat (first | (with_reducible first | exact HB.out | apply below_alloc | apply pw_below_drewN | apply below_drew1) | exact HB.out)⟩⟩
  case round =>
    clear H'
    try clear c1
    try clear p2
    try clear c5
    obtain ⟨x5_1, x15_1, rfl, rfl, HA, HK1, HO_13, HB⟩ := hrel
    cases gk with
    | zero => exact absurd HA.out (by simp [abugidalaw06_ClusterCovers.l0])
    | succ k1 =>
      have H := HA.out
      clear HA
      simp only [abugidalaw06_ClusterCovers.l0] at H
      by_cases c9 : x15_1 < (t236.length : Int)
      · rw [if_pos c9] at H
        have c9b0 : decide (x15_1 < (t236.length : Int)) = true := decide_eq_true c9
        clear c9
        by_cases c10 : 0 ≤ x15_1
        · rw [if_pos c10] at H
          have c10b0 : decide (0 ≤ x15_1) = true := decide_eq_true c10
          clear c10
          by_cases c11 : x15_1 < (t236.length : Int)
          · rw [if_pos c11] at H
            have c11b0 : decide (x15_1 < (t236.length : Int)) = true := decide_eq_true c11
            clear c11
            have HC12 := Aside0.mk H
            clear H
            have p239 : 0 ≤ (x15_1 : Int) := of_decide_eq_true (by first | (with_reducible assumption) | assumption)
            have q239 : x15_1 < (t236.length : Int) := of_decide_eq_true (by first | (with_reducible assumption) | assumption)
            obtain ⟨ad239, e239, hx239_0, hx239_1⟩ := at_T30 (Kd.R_reads' HO_13.out).2.2 x15_1 p239 q239
            cases e239
            replace p239 := eq_true p239
            replace q239 := eq_true q239
            go_upto_region 7 with (first | ((with_reducible refine gate_dst (N := 7) rfl ?_); (try (refine gate_guard (by rfl) ?_; dsimp only)); refine box_event ?hg (N := 7) ?hd (cs := #[.int .i64 0, .int .i64 0]) (t := 30) ?hr ?_; (case hd => rfl); (case hg => rfl); (case hr => first | (go_simp; done) | (go_simp; rfl)); intro gb240 hg w13 hbox hb; have n0_ := Aside0.mk (Kd.R_below (Kd.R_elderB (by (with_reducible repeat (first | apply Kd.R_alloc | apply Kd.R_drewN | apply Kd.R_drew)); exact HO_13.out) gb240 (Nat.le_of_eq hg.symm)) hb); have n1_ := Aside0.mk (below_step (by repeat (first | (with_reducible first | exact HB.out | apply below_alloc | apply pw_below_drewN | apply below_drew1) | exact HB.out)) hb); have n2_ := Aside0.mk (hbox); have n3_ := Aside0.mk ((by rw [hg]; exact (below_size (by repeat (first | (with_reducible first | exact HB.out | apply below_alloc | apply pw_below_drewN | apply below_drew1) | exact HB.out))) : w.heap.size ≤ gb240)); have n4_ := Aside0.mk ((by rw [hg]; exact (below_size (by repeat (first | (with_reducible first | exact HB.out | apply below_alloc | apply pw_below_drewN | apply below_drew1) | exact HB.out))) : w.heap.size ≤ gb240)); clear HO_13; clear HB; have HO_13 := n0_; have HB := n1_; have BK240 := n2_; have GW240 := n3_; have GE240 := n4_; clear n0_ n1_ n2_ n3_ n4_; clear hb hbox hg; have hcz14_0 : w13.cell? ⟨gb240, 0, none⟩ = some (.int .i64 0) := (blk_cell BK240.out 0).trans rfl; have hcz14_1 : w13.cell? ⟨gb240, 1, none⟩ = some (.int .i64 0) := (blk_cell BK240.out 1).trans rfl; have hfz14_0 := blk_frozen BK240.out 0; have hfz14_1 := blk_frozen BK240.out 1))
            (try simp only [Act.put, List.setIfInBounds_toArray, List.set_cons_zero, List.set_cons_succ])
            go_cut [45] (fun v45 wc => ∃ (kq : Nat) (x45_11 : Bool), v45 = .bool x45_11 ∧ Aside0 (abugidalaw06_ClusterCovers.j1 kq t234 t235 x15_1 t236 (t236.length : Int) x15_1 x45_11 ((rd_T30 t236 x15_1).f0) ((rd_T30 t236 x15_1).f1) = some r) ∧ Aside0 (kq ≤ k1) ∧ Aside0 (Kd.R k30 30 wc w.heap.size (fun k_ => k_ ≠ gb240) (.slice (some ad239) t236.length co8) t236) ∧ Aside0 (wc.heap[gb240]? = some (.cells #[.int .i64 ((rd_T30 t236 x15_1).f0), .int .i64 ((rd_T30 t236 x15_1).f1)] 30 (0, 0))) ∧ Aside0 (Below w.heap.size w wc))
            case first =>
              have H := HC12.out
              clear HC12
              by_cases c15 : ((rd_T30 t236 x15_1).f0) = x5_1
              · rw [if_pos c15] at H
                have c15b0 : (((rd_T30 t236 x15_1).f0) == x5_1) = true := beq_iff_eq.mpr c15
                have c15b1 : (((rd_T30 t236 x15_1).f0) != x5_1) = false := bne_eq_false_iff_eq.mpr c15
                clear c15
                (first | rw [c15b0] | (simp only [i64_w, i32_w]; rw [c15b0]) | skip)
                by_cases c16 : ((rd_T30 t236 x15_1).f1) ≤ ((rd_T30 t236 x15_1).f0)
                · rw [if_pos c16] at H
                  have c16b0 : decide (((rd_T30 t236 x15_1).f1) ≤ ((rd_T30 t236 x15_1).f0)) = true := decide_eq_true c16
                  clear c16
                  have H' := Aside0.mk H
                  clear H
                  have hcz17_0 : w13.cell? ⟨gb240, 0, none⟩ = some (.int .i64 0) := (blk_cell BK240.out 0).trans rfl
                  have hcz17_1 : w13.cell? ⟨gb240, 1, none⟩ = some (.int .i64 0) := (blk_cell BK240.out 1).trans rfl
                  have hfz17_0 := blk_frozen BK240.out 0
                  have hfz17_1 := blk_frozen BK240.out 1
                  go_wp2
                  go_meet
                  case rel => exact ⟨_, (true), (by first | rfl | (simp; done) | (simp [*]; done)), H', ⟨by have := HK1.out; first | omega | exact Nat.le_refl _⟩, ⟨by (with_reducible repeat (first | apply Kd.R_alloc | apply Kd.R_drewN | apply Kd.R_drew)); exact Kd.R_mono (Kd.R_far (p := ⟨gb240, 1, none⟩) (Kd.R_far (p := ⟨gb240, 0, none⟩) (Kd.R_mono HO_13.out (fun k_ hk => (⟨hk, hk.2⟩ : _ ∧ k_ ≠ gb240))) (fun _ hk => hk.2) (.int .i64 ((rd_T30 t236 x15_1).f0))) (fun _ hk => hk.2) (.int .i64 ((rd_T30 t236 x15_1).f1))) (fun _ hk => hk.1.2)⟩, ⟨by (with_reducible repeat (first | refine blk_drewN ?_ _ | refine blk_drew ?_ | refine blk_alloc ?_ _)); refine blk_put (cs := #[.int .i64 ((rd_T30 t236 x15_1).f0), .int .i64 0]) ?_ 1 _ rfl; (with_reducible repeat (first | refine blk_drewN ?_ _ | refine blk_drew ?_ | refine blk_alloc ?_ _)); refine blk_put (cs := #[.int .i64 0, .int .i64 0]) ?_ 0 _ rfl; (with_reducible repeat (first | refine blk_drewN ?_ _ | refine blk_drew ?_ | refine blk_alloc ?_ _)); exact BK240.out⟩, ⟨by repeat (first | (with_reducible first | exact HB.out | apply below_alloc | apply pw_below_drewN | apply below_drew1 | refine below_set ?_ GE240.out) | exact HB.out)⟩⟩
                · rw [if_neg c16] at H
                  have c16b0 : decide (((rd_T30 t236 x15_1).f1) ≤ ((rd_T30 t236 x15_1).f0)) = false := decide_eq_false c16
                  clear c16
                  by_cases c18 : ((rd_T30 t236 x15_1).f1) > (t235.size : Int)
                  · rw [if_pos c18] at H
                    have c18b0 : decide ((t235.size : Int) < ((rd_T30 t236 x15_1).f1)) = true := decide_eq_true c18
                    clear c18
                    have H' := Aside0.mk H
                    clear H
                    have hcz19_0 : w13.cell? ⟨gb240, 0, none⟩ = some (.int .i64 0) := (blk_cell BK240.out 0).trans rfl
                    have hcz19_1 : w13.cell? ⟨gb240, 1, none⟩ = some (.int .i64 0) := (blk_cell BK240.out 1).trans rfl
                    have hfz19_0 := blk_frozen BK240.out 0
                    have hfz19_1 := blk_frozen BK240.out 1
                    go_wp2
                    go_meet
                    case rel => exact ⟨_, (true), (by first | rfl | (simp; done) | (simp [*]; done)), H', ⟨by have := HK1.out; first | omega | exact Nat.le_refl _⟩, ⟨by (with_reducible repeat (first | apply Kd.R_alloc | apply Kd.R_drewN | apply Kd.R_drew)); exact Kd.R_mono (Kd.R_far (p := ⟨gb240, 1, none⟩) (Kd.R_far (p := ⟨gb240, 0, none⟩) (Kd.R_mono HO_13.out (fun k_ hk => (⟨hk, hk.2⟩ : _ ∧ k_ ≠ gb240))) (fun _ hk => hk.2) (.int .i64 ((rd_T30 t236 x15_1).f0))) (fun _ hk => hk.2) (.int .i64 ((rd_T30 t236 x15_1).f1))) (fun _ hk => hk.1.2)⟩, ⟨by (with_reducible repeat (first | refine blk_drewN ?_ _ | refine blk_drew ?_ | refine blk_alloc ?_ _)); refine blk_put (cs := #[.int .i64 ((rd_T30 t236 x15_1).f0), .int .i64 0]) ?_ 1 _ rfl; (with_reducible repeat (first | refine blk_drewN ?_ _ | refine blk_drew ?_ | refine blk_alloc ?_ _)); refine blk_put (cs := #[.int .i64 0, .int .i64 0]) ?_ 0 _ rfl; (with_reducible repeat (first | refine blk_drewN ?_ _ | refine blk_drew ?_ | refine blk_alloc ?_ _)); exact BK240.out⟩, ⟨by repeat (first | (with_reducible first | exact HB.out | apply below_alloc | apply pw_below_drewN | apply below_drew1 | refine below_set ?_ GE240.out) | exact HB.out)⟩⟩
                  · rw [if_neg c18] at H
                    have c18b0 : decide ((t235.size : Int) < ((rd_T30 t236 x15_1).f1)) = false := decide_eq_false c18
                    clear c18
                    have H' := Aside0.mk H
                    clear H
                    have hcz20_0 : w13.cell? ⟨gb240, 0, none⟩ = some (.int .i64 0) := (blk_cell BK240.out 0).trans rfl
                    have hcz20_1 : w13.cell? ⟨gb240, 1, none⟩ = some (.int .i64 0) := (blk_cell BK240.out 1).trans rfl
                    have hfz20_0 := blk_frozen BK240.out 0
                    have hfz20_1 := blk_frozen BK240.out 1
                    go_wp2
                    go_meet
                    case rel => exact ⟨_, (decide ((wrap64 (((rd_T30 t236 x15_1).f1) - ((rd_T30 t236 x15_1).f0))) > 6)), (by first | rfl | (simp; done) | (simp [*]; done)), H', ⟨by have := HK1.out; first | omega | exact Nat.le_refl _⟩, ⟨by (with_reducible repeat (first | apply Kd.R_alloc | apply Kd.R_drewN | apply Kd.R_drew)); exact Kd.R_mono (Kd.R_far (p := ⟨gb240, 1, none⟩) (Kd.R_far (p := ⟨gb240, 0, none⟩) (Kd.R_mono HO_13.out (fun k_ hk => (⟨hk, hk.2⟩ : _ ∧ k_ ≠ gb240))) (fun _ hk => hk.2) (.int .i64 ((rd_T30 t236 x15_1).f0))) (fun _ hk => hk.2) (.int .i64 ((rd_T30 t236 x15_1).f1))) (fun _ hk => hk.1.2)⟩, ⟨by (with_reducible repeat (first | refine blk_drewN ?_ _ | refine blk_drew ?_ | refine blk_alloc ?_ _)); refine blk_put (cs := #[.int .i64 ((rd_T30 t236 x15_1).f0), .int .i64 0]) ?_ 1 _ rfl; (with_reducible repeat (first | refine blk_drewN ?_ _ | refine blk_drew ?_ | refine blk_alloc ?_ _)); refine blk_put (cs := #[.int .i64 0, .int .i64 0]) ?_ 0 _ rfl; (with_reducible repeat (first | refine blk_drewN ?_ _ | refine blk_drew ?_ | refine blk_alloc ?_ _)); exact BK240.out⟩, ⟨by repeat (first | (with_reducible first | exact HB.out | apply below_alloc | apply pw_below_drewN | apply below_drew1 | refine below_set ?_ GE240.out) | exact HB.out)⟩⟩
              · rw [if_neg c15] at H
                have c15b0 : (((rd_T30 t236 x15_1).f0) == x5_1) = false := beq_eq_false_iff_ne.mpr c15
                have c15b1 : (((rd_T30 t236 x15_1).f0) != x5_1) = true := bne_iff_ne.mpr c15
                (first | rw [c15b0] | (simp only [i64_w, i32_w]; rw [c15b0]) | skip)
                have H' := Aside0.mk H
                clear H
                have hcz21_0 : w13.cell? ⟨gb240, 0, none⟩ = some (.int .i64 0) := (blk_cell BK240.out 0).trans rfl
                have hcz21_1 : w13.cell? ⟨gb240, 1, none⟩ = some (.int .i64 0) := (blk_cell BK240.out 1).trans rfl
                have hfz21_0 := blk_frozen BK240.out 0
                have hfz21_1 := blk_frozen BK240.out 1
                go_wp2
                go_meet
                case rel => exact ⟨_, (true), (by first | rfl | (simp; done) | (simp [*]; done)), H', ⟨by have := HK1.out; first | omega | exact Nat.le_refl _⟩, ⟨by (with_reducible repeat (first | apply Kd.R_alloc | apply Kd.R_drewN | apply Kd.R_drew)); exact Kd.R_mono (Kd.R_far (p := ⟨gb240, 1, none⟩) (Kd.R_far (p := ⟨gb240, 0, none⟩) (Kd.R_mono HO_13.out (fun k_ hk => (⟨hk, hk.2⟩ : _ ∧ k_ ≠ gb240))) (fun _ hk => hk.2) (.int .i64 ((rd_T30 t236 x15_1).f0))) (fun _ hk => hk.2) (.int .i64 ((rd_T30 t236 x15_1).f1))) (fun _ hk => hk.1.2)⟩, ⟨by (with_reducible repeat (first | refine blk_drewN ?_ _ | refine blk_drew ?_ | refine blk_alloc ?_ _)); refine blk_put (cs := #[.int .i64 ((rd_T30 t236 x15_1).f0), .int .i64 0]) ?_ 1 _ rfl; (with_reducible repeat (first | refine blk_drewN ?_ _ | refine blk_drew ?_ | refine blk_alloc ?_ _)); refine blk_put (cs := #[.int .i64 0, .int .i64 0]) ?_ 0 _ rfl; (with_reducible repeat (first | refine blk_drewN ?_ _ | refine blk_drew ?_ | refine blk_alloc ?_ _)); exact BK240.out⟩, ⟨by repeat (first | (with_reducible first | exact HB.out | apply below_alloc | apply pw_below_drewN | apply below_drew1 | refine below_set ?_ GE240.out) | exact HB.out)⟩⟩
            case rest =>
              clear HC12
              try clear c1
              try clear p2
              try clear q2
              try clear hx2
              try clear c5
              try clear p6
              try clear c9
              try clear c9b0
              try clear c10
              try clear c10b0
              try clear c11
              try clear c11b0
              try clear c13
              try clear c15
              try clear c15b0
              try clear c15b1
              try clear c16
              try clear c16b0
              try clear c18
              try clear c18b0
              try clear hcz14_0
              try clear hcz14_1
              try clear hcz17_0
              try clear hcz17_1
              try clear hcz19_0
              try clear hcz19_1
              try clear hcz20_0
              try clear hcz20_1
              try clear hcz21_0
              try clear hcz21_1
              try clear hfz14_0
              try clear hfz14_1
              try clear hfz17_0
              try clear hfz17_1
              try clear hfz19_0
              try clear hfz19_1
              try clear hfz20_0
              try clear hfz20_1
              try clear hfz21_0
              try clear hfz21_1
              try clear hx239_0
              try clear hx239_1
              try clear p2
              try clear p239
              try clear q239
              obtain ⟨kq, x45_11, rfl, HA, HJ11, HO_13, BK240, HB⟩ := hcut
              cases kq with
              | zero => exact absurd HA.out (by simp [abugidalaw06_ClusterCovers.j1])
              | succ kj11 =>
                have H := HA.out
                clear HA
                simp only [abugidalaw06_ClusterCovers.j1] at H
                by_cases c22 : x45_11 = true
                · subst c22
                  have H1 : (some false) = some r := by rw [if_pos rfl] at H; exact H
                  clear H
                  have H := H1
                  clear H1
                  obtain rfl := Option.some.inj H
                  go_wp2
                  go_ret
                  exact ⟨by first | rfl | (simp [errW_none, errW_some] <;> rfl) | (simp [*, errW_none, errW_some] <;> rfl), by repeat (first | (with_reducible first | exact HB.out | apply below_alloc | apply pw_below_drewN | apply below_drew1 | refine below_set ?_ GE240.out) | exact HB.out)⟩
                · replace c22 := Bool.eq_false_iff.mpr c22
                  subst c22
                  have H1 : (abugidalaw06_ClusterCovers.l1 kj11 t234 t235 x15_1 ((rd_T30 t236 x15_1).f0) t236 (t236.length : Int) x15_1 ((rd_T30 t236 x15_1).f0) ((rd_T30 t236 x15_1).f1)) = some r := by rw [if_neg (show ¬ (false = true) by decide)] at H; exact H
                  clear H
                  have H := H1
                  clear H1
                  have H' := Aside0.mk H
                  clear H
                  have hcz23_0 : wc.cell? ⟨gb240, 0, none⟩ = some (.int .i64 ((rd_T30 t236 x15_1).f0)) := (blk_cell BK240.out 0).trans rfl
                  have hcz23_1 : wc.cell? ⟨gb240, 1, none⟩ = some (.int .i64 ((rd_T30 t236 x15_1).f1)) := (blk_cell BK240.out 1).trans rfl
                  have hfz23_0 := blk_frozen BK240.out 0
                  have hfz23_1 := blk_frozen BK240.out 1
                  go_wp2
                  go_loopg [8] kj11 (fun kq v8 w' => ∃ (x8_3 : Int), v8 = .int .i64 x8_3 ∧ Aside0 (abugidalaw06_ClusterCovers.l1 kq t234 t235 x15_1 x8_3 t236 (t236.length : Int) x15_1 ((rd_T30 t236 x15_1).f0) ((rd_T30 t236 x15_1).f1) = some r) ∧ Aside0 (kq ≤ kj11) ∧ Aside0 (Kd.R k30 30 w' w.heap.size (fun k_ => k_ ≠ gb240) (.slice (some ad239) t236.length co8) t236) ∧ Aside0 (w'.heap[gb240]? = some (.cells #[.int .i64 ((rd_T30 t236 x15_1).f0), .int .i64 ((rd_T30 t236 x15_1).f1)] 30 (0, 0))) ∧ Aside0 (Below w.heap.size w w'))
                  case atStart => exact ⟨(((rd_T30 t236 x15_1).f0)), (by first | rfl | (simp; done) | (simp [*]; done)), H', ⟨Nat.le_refl _⟩, ⟨by (with_reducible repeat (first | apply Kd.R_alloc | apply Kd.R_drewN | apply Kd.R_drew)); exact HO_13.out⟩, ⟨by (with_reducible repeat (first | refine blk_drewN ?_ _ | refine blk_drew ?_ | refine blk_alloc ?_ _)); exact BK240.out⟩, ⟨by repeat (first | (with_reducible first | exact HB.out | apply below_alloc | apply pw_below_drewN | apply below_drew1 | refine below_set ?_ GE240.out) | exact HB.out)⟩⟩
                  case round =>
                    clear H'
                    try clear c1
                    try clear c2
                    try clear p2
                    try clear q2
                    try clear hx2
                    try clear c5
                    try clear p6
                    try clear c9
                    try clear c9b0
                    try clear c10
                    try clear c10b0
                    try clear c11
                    try clear c11b0
                    try clear c13
                    try clear c15
                    try clear c15b0
                    try clear c15b1
                    try clear c16
                    try clear c16b0
                    try clear c18
                    try clear c18b0
                    try clear c22
                    try clear p23
                    try clear q23
                    try clear hx23
                    try clear hcz14_0
                    try clear hcz14_1
                    try clear hcz17_0
                    try clear hcz17_1
                    try clear hcz19_0
                    try clear hcz19_1
                    try clear hcz20_0
                    try clear hcz20_1
                    try clear hcz21_0
                    try clear hcz21_1
                    try clear hcz23_0
                    try clear hcz23_1
                    try clear hfz14_0
                    try clear hfz14_1
                    try clear hfz17_0
                    try clear hfz17_1
                    try clear hfz19_0
                    try clear hfz19_1
                    try clear hfz20_0
                    try clear hfz20_1
                    try clear hfz21_0
                    try clear hfz21_1
                    try clear hfz23_0
                    try clear hfz23_1
                    try clear hx239_0
                    try clear hx239_1
                    try clear p2
                    try clear p239
                    try clear p6
                    try clear q2
                    try clear q239
                    obtain ⟨x8_3, rfl, HA, HK3, HO_13, BK240, HB⟩ := hrel
                    cases gk with
                    | zero => exact absurd HA.out (by simp [abugidalaw06_ClusterCovers.l1])
                    | succ k3 =>
                      have H := HA.out
                      clear HA
                      simp only [abugidalaw06_ClusterCovers.l1] at H
                      by_cases c24 : x8_3 < ((rd_T30 t236 x15_1).f1)
                      · rw [if_pos c24] at H
                        have c24b0 : decide (x8_3 < ((rd_T30 t236 x15_1).f1)) = true := decide_eq_true c24
                        clear c24
                        replace H := Option.bind_eq_some_iff.mp H
                        obtain ⟨t241, A250, H⟩ := H
                        replace H : (if t241 = x15_1 then (abugidalaw06_ClusterCovers.l1 k3 t234 t235 x15_1 (wrap64 (x8_3 + 1)) t236 (t236.length : Int) x15_1 ((rd_T30 t236 x15_1).f0) ((rd_T30 t236 x15_1).f1)) else (some false)) = some r := H
                        have A25 := Aside0.mk A250
                        clear A250
                        by_cases c26 : t241 = x15_1
                        · rw [if_pos c26] at H
                          have c26b0 : (t241 == x15_1) = true := beq_iff_eq.mpr c26
                          have c26b1 : (t241 != x15_1) = false := bne_eq_false_iff_eq.mpr c26
                          clear c26
                          have H' := Aside0.mk H
                          clear H
                          have hcz27_0 : wr.cell? ⟨gb240, 0, none⟩ = some (.int .i64 ((rd_T30 t236 x15_1).f0)) := (blk_cell BK240.out 0).trans rfl
                          have hcz27_1 : wr.cell? ⟨gb240, 1, none⟩ = some (.int .i64 ((rd_T30 t236 x15_1).f1)) := (blk_cell BK240.out 1).trans rfl
                          have hfz27_0 := blk_frozen BK240.out 0
                          have hfz27_1 := blk_frozen BK240.out 1
                          go_wp2_with (first | ((with_reducible refine gate_callee (f := 15) rfl ?_); refine goesL_ (some 56) rfl rfl Try.func15 (by kernel_rfl) rfl #[.string t235, .int .i64 x8_3] rfl (by (try simp only [List.map_toArray, List.map_cons, List.map_nil]); first | done | rfl | (simp only [List.length_drop, List.length_take]; rfl)) ?_; (with_reducible refine (cluster_At.calls t235 x8_3 t241 _ A25.out).mono ?_); rintro e w28 ⟨rfl, hb⟩; refine ⟨_, rfl, ?_⟩; have n0_ := Aside0.mk (Kd.R_below (by (with_reducible repeat (first | apply Kd.R_alloc | apply Kd.R_drewN | apply Kd.R_drew)); exact HO_13.out) hb); have n1_ := Aside0.mk (blk_below (g := gb240) (o := .cells #[.int .i64 ((rd_T30 t236 x15_1).f0), .int .i64 ((rd_T30 t236 x15_1).f1)] 30 (0, 0)) (by (with_reducible repeat (first | refine blk_drewN ?_ _ | refine blk_drew ?_ | refine blk_alloc ?_ _)); exact BK240.out) hb); have n2_ := Aside0.mk (below_step (by repeat (first | (with_reducible first | exact HB.out | apply below_alloc | apply pw_below_drewN | apply below_drew1 | refine below_set ?_ GE240.out) | exact HB.out)) hb); clear HO_13; clear BK240; clear HB; have HO_13 := n0_; have BK240 := n1_; have HB := n2_; clear n0_ n1_ n2_; (try clear hb); (try clear hb2); (try clear hk); (try clear hi)))
                          go_roundg k3
                          case measure => have := HK1.out; have := HJ11.out; have := HK3.out; omega
                          case rel => exact ⟨(wrap64 (x8_3 + 1)), (by first | rfl | (simp; done) | (simp [*]; done)), H', ⟨by have := HK1.out; have := HJ11.out; have := HK3.out; omega⟩, ⟨by (with_reducible repeat (first | apply Kd.R_alloc | apply Kd.R_drewN | apply Kd.R_drew)); exact HO_13.out⟩, ⟨by (with_reducible repeat (first | refine blk_drewN ?_ _ | refine blk_drew ?_ | refine blk_alloc ?_ _)); exact BK240.out⟩, ⟨by repeat (first | (with_reducible first | exact HB.out | apply below_alloc | apply pw_below_drewN | apply below_drew1 | refine below_set ?_ GE240.out) | exact HB.out)⟩⟩
                        · rw [if_neg c26] at H
                          have c26b0 : (t241 == x15_1) = false := beq_eq_false_iff_ne.mpr c26
                          have c26b1 : (t241 != x15_1) = true := bne_iff_ne.mpr c26
                          obtain rfl := Option.some.inj H
                          have hcz29_0 : wr.cell? ⟨gb240, 0, none⟩ = some (.int .i64 ((rd_T30 t236 x15_1).f0)) := (blk_cell BK240.out 0).trans rfl
                          have hcz29_1 : wr.cell? ⟨gb240, 1, none⟩ = some (.int .i64 ((rd_T30 t236 x15_1).f1)) := (blk_cell BK240.out 1).trans rfl
                          have hfz29_0 := blk_frozen BK240.out 0
                          have hfz29_1 := blk_frozen BK240.out 1
                          go_wp2_with (first | ((with_reducible refine gate_callee (f := 15) rfl ?_); refine goesL_ (some 56) rfl rfl Try.func15 (by kernel_rfl) rfl #[.string t235, .int .i64 x8_3] rfl (by (try simp only [List.map_toArray, List.map_cons, List.map_nil]); first | done | rfl | (simp only [List.length_drop, List.length_take]; rfl)) ?_; (with_reducible refine (cluster_At.calls t235 x8_3 t241 _ A25.out).mono ?_); rintro e w30 ⟨rfl, hb⟩; refine ⟨_, rfl, ?_⟩; have n0_ := Aside0.mk (Kd.R_below (by (with_reducible repeat (first | apply Kd.R_alloc | apply Kd.R_drewN | apply Kd.R_drew)); exact HO_13.out) hb); have n1_ := Aside0.mk (blk_below (g := gb240) (o := .cells #[.int .i64 ((rd_T30 t236 x15_1).f0), .int .i64 ((rd_T30 t236 x15_1).f1)] 30 (0, 0)) (by (with_reducible repeat (first | refine blk_drewN ?_ _ | refine blk_drew ?_ | refine blk_alloc ?_ _)); exact BK240.out) hb); have n2_ := Aside0.mk (below_step (by repeat (first | (with_reducible first | exact HB.out | apply below_alloc | apply pw_below_drewN | apply below_drew1 | refine below_set ?_ GE240.out) | exact HB.out)) hb); clear HO_13; clear BK240; clear HB; have HO_13 := n0_; have BK240 := n1_; have HB := n2_; clear n0_ n1_ n2_; (try clear hb); (try clear hb2); (try clear hk); (try clear hi)))
                          go_ret
                          exact ⟨by first | rfl | (simp [errW_none, errW_some] <;> rfl) | (simp [*, errW_none, errW_some] <;> rfl), by repeat (first | (with_reducible first | exact HB.out | apply below_alloc | apply pw_below_drewN | apply below_drew1 | refine below_set ?_ GE240.out) | exact HB.out)⟩
                      · rw [if_neg c24] at H
                        have c24b0 : decide (x8_3 < ((rd_T30 t236 x15_1).f1)) = false := decide_eq_false c24
                        clear c24
                        have H' := Aside0.mk H
                        clear H
                        have hcz31_0 : wr.cell? ⟨gb240, 0, none⟩ = some (.int .i64 ((rd_T30 t236 x15_1).f0)) := (blk_cell BK240.out 0).trans rfl
                        have hcz31_1 : wr.cell? ⟨gb240, 1, none⟩ = some (.int .i64 ((rd_T30 t236 x15_1).f1)) := (blk_cell BK240.out 1).trans rfl
                        have hfz31_0 := blk_frozen BK240.out 0
                        have hfz31_1 := blk_frozen BK240.out 1
                        go_wp2
                        go_roundg k3
                        case measure => have := HK1.out; have := HJ11.out; have := HK3.out; omega
                        case rel => exact ⟨(((rd_T30 t236 x15_1).f1)), (wrap64 (x15_1 + 1)), (by first | rfl | (simp; done) | (simp [*]; done)), (by first | rfl | (simp; done) | (simp [*]; done)), H', ⟨by have := HK1.out; have := HJ11.out; have := HK3.out; omega⟩, ⟨by (with_reducible repeat (first | apply Kd.R_alloc | apply Kd.R_drewN | apply Kd.R_drew)); exact Kd.R_mono HO_13.out (fun _ hk => trivial)⟩, ⟨by repeat (first | (with_reducible first | exact HB.out | apply below_alloc | apply pw_below_drewN | apply below_drew1 | refine below_set ?_ GE240.out) | exact HB.out)⟩⟩
          · rw [if_neg c11] at H
            exact absurd H (by simp)
        · rw [if_neg c10] at H
          exact absurd H (by simp)
      · rw [if_neg c9] at H
        have c9b0 : decide (x15_1 < (t236.length : Int)) = false := decide_eq_false c9
        clear c9
        by_cases c32 : t234 = true
        · subst c32
          have H1 : (some (x5_1 == (t235.size : Int))) = some r := by rw [if_pos rfl] at H; exact H
          clear H
          have H := H1
          clear H1
          obtain rfl := Option.some.inj H
          go_wp2
          go_ret
          exact ⟨by first | rfl | (simp [errW_none, errW_some] <;> rfl) | (simp [*, errW_none, errW_some] <;> rfl), by repeat (first | (with_reducible first | exact HB.out | apply below_alloc | apply pw_below_drewN | apply below_drew1) | exact HB.out)⟩
        · replace c32 := Bool.eq_false_iff.mpr c32
          subst c32
          have H1 : (some false) = some r := by rw [if_neg (show ¬ (false = true) by decide)] at H; exact H
          clear H
          have H := H1
          clear H1
          obtain rfl := Option.some.inj H
          go_wp2
          go_ret
          exact ⟨by first | rfl | (simp [errW_none, errW_some] <;> rfl) | (simp [*, errW_none, errW_some] <;> rfl), by repeat (first | (with_reducible first | exact HB.out | apply below_alloc | apply pw_below_drewN | apply below_drew1) | exact HB.out)⟩

/-- THE ONE PURE STATEMENT of abugidalaw06_ClusterCovers: yours. -/
def abugidalaw06_ClusterCovers.Pure : Prop := ∀ (l0 : List Int), l0.length ≤ maxLen → l0.length * 8 ≤ 140737488351232 → (∀ x ∈ l0, (Lit.int .i64 x).wf = true) → ∃ k, abugidalaw06_ClusterCovers.f k l0 = some true
theorem abugidalaw06_ClusterCovers.walk (P : abugidalaw06_ClusterCovers.Pure) (a0 : Option Addr) (len0 cap0 : Nat) (z0 : List Int) (w : World) (w0 : (a0 = none ∧ len0 = 0 ∧ cap0 = 0 ∧ z0 = []) ∨ ∃ x, a0 = some x ∧ len0 ≤ cap0 ∧ cap0 ≤ maxLen ∧ z0.length = cap0 ∧ (∀ i, i < z0.length → w.cell? (x.add i) = some (.int .i64 (z0.getD i 0))) ∧ ∀ n ∈ z0, (Lit.int .i64 n).wf = true) (y0 : len0 * 8 ≤ 140737488351232) :
    Calls Try.prog 5 #[.slice a0 len0 cap0] w fun e w' => e = .returned (.bool true) ∧ Below w.heap.size w w' := by
  obtain ⟨l0, rfl, hr0, hm0, hw0, hc0⟩ := ReadsInt.ofRowC w0
  obtain ⟨k, h⟩ := P l0 hm0 y0 hw0
  refine (abugidalaw06_ClusterCovers.calls k _ _ l0 true w (Kd.C_of_reads (d := (0 : Int)) (h1 := fun _ => rfl) hr0) hc0 h).mono ?_
  rintro e w' ⟨rfl, hd⟩
  exact ⟨rfl, hd⟩

end Go.Proofs.Ytngdddgoplmlbaa.Q

-- Written by wip/tools/myprint.py, a program of this session that drives the kit's print.py; not a text of print.sh.
import Derived.Test.YtngdddgoplmlbaaQx0
import Derived.Test.YtngdddgoplmlbaaQx2
import Derived.Test.YtngdddgoplmlbaaQx3
import Derived.Test.YtngdddgoplmlbaaQx6
import Derived.Test.YtngdddgoplmlbaaQx7
namespace Go.Proofs.Ytngdddgoplmlbaa.Q
open Go.RowKit Go.Proofs.YtngdddgoplmlbaaW.PrintWords Go.Proofs.YtngdddgoplmlbaaW.PrintLast Go.Proofs.YtngdddgoplmlbaaW.PrintMore
attribute [local go_sem] max2_int min2_int max_two min_two max_three min_three max_four min_four   -- for this text's walks alone
set_option linter.unusedVariables false
set_option linter.unusedSimpArgs false

/-! ### abugidalaw06_ClusterBases: function 7 -/
mutual
def abugidalaw06_ClusterBases.l0 : Nat → Bool → ByteArray → List (S30) → Int → Int → Option (Bool)
  | 0, _, _, _, _, _ => none
  | k + 1, x3, x4, x15, x16, x17 => if x17 < x16 then (if 0 ≤ x17 then (if x17 < (x15.length : Int) then ((cluster_Base.f k x4 ((rd_T30 x15 x17).f0) ((rd_T30 x15 x17).f1)).bind fun t262 => (if ((rd_T30 x15 x17).f0) < 0 then (abugidalaw06_ClusterBases.j1 k x3 x4 t262 x15 x16 x17 true ((rd_T30 x15 x17).f0) ((rd_T30 x15 x17).f1)) else (if ((rd_T30 x15 x17).f1) > (x4.size : Int) then (abugidalaw06_ClusterBases.j1 k x3 x4 t262 x15 x16 x17 true ((rd_T30 x15 x17).f0) ((rd_T30 x15 x17).f1)) else (if t262 < ((rd_T30 x15 x17).f0) then (abugidalaw06_ClusterBases.j1 k x3 x4 t262 x15 x16 x17 true ((rd_T30 x15 x17).f0) ((rd_T30 x15 x17).f1)) else (abugidalaw06_ClusterBases.j1 k x3 x4 t262 x15 x16 x17 (decide (t262 ≥ ((rd_T30 x15 x17).f1))) ((rd_T30 x15 x17).f0) ((rd_T30 x15 x17).f1)))))) else (none)) else (none)) else (some x3)
def abugidalaw06_ClusterBases.j1 : Nat → Bool → ByteArray → Int → List (S30) → Int → Int → Bool → Int → Int → Option (Bool)
  | 0, _, _, _, _, _, _, _, _, _ => none
  | k + 1, x3, x4, x7, x15, x16, x17, x45, x262000, x262001 => if x45 = true then (some false) else (abugidalaw06_ClusterBases.l1 k x3 x4 x7 true x262000 x15 x16 x17 x262000 x262001)
def abugidalaw06_ClusterBases.l1 : Nat → Bool → ByteArray → Int → Bool → Int → List (S30) → Int → Int → Int → Int → Option (Bool)
  | 0, _, _, _, _, _, _, _, _, _, _ => none
  | k + 1, x3, x4, x7, x8, x9, x15, x16, x17, x262000, x262001 => if x9 < x262001 then (if 0 ≤ x9 then (if x9 < (x4.size : Int) then ((chars_Extends.f k (wrap64 (bt x4 x9))).bind fun t263 => (if x8 = true then (if x9 < x7 then (if t263 = true then (abugidalaw06_ClusterBases.l1 k x3 x4 x7 t263 (wrap64 (x9 + 1)) x15 x16 x17 x262000 x262001) else (some false)) else (abugidalaw06_ClusterBases.l1 k x3 x4 x7 t263 (wrap64 (x9 + 1)) x15 x16 x17 x262000 x262001)) else (if x9 < x7 then (if t263 = true then (abugidalaw06_ClusterBases.l1 k x3 x4 x7 false (wrap64 (x9 + 1)) x15 x16 x17 x262000 x262001) else (some false)) else (abugidalaw06_ClusterBases.l1 k x3 x4 x7 false (wrap64 (x9 + 1)) x15 x16 x17 x262000 x262001)))) else (none)) else (none)) else (if 0 ≤ x7 then (if x7 < (x4.size : Int) then ((chars_Extends.f k (wrap64 (bt x4 x7))).bind fun t264 => (if t264 = true then (if x8 = true then (if x7 = x262000 then (abugidalaw06_ClusterBases.l0 k x3 x4 x15 x16 (wrap64 (x17 + 1))) else (some false)) else (some false)) else (abugidalaw06_ClusterBases.l0 k x3 x4 x15 x16 (wrap64 (x17 + 1))))) else (none)) else (none))
end
def abugidalaw06_ClusterBases.f (k : Nat) (l0 : List Int) : Option (Bool) := (abugidalaw06_sanity.f k).bind fun t255 => ((abugidaref06_Made.f k l0 60).bind fun t256 => ((cluster_Split.f t256).bind fun t257 => (abugidalaw06_ClusterBases.l0 k t255 t256 t257 (t257.length : Int) 0)))
theorem abugidalaw06_ClusterBases.mono_l : ∀ k, (∀ y0 y1 y2 y3 y4, LeO (abugidalaw06_ClusterBases.l0 k y0 y1 y2 y3 y4) (abugidalaw06_ClusterBases.l0 (k + 1) y0 y1 y2 y3 y4)) ∧ (∀ y0 y1 y2 y3 y4 y5 y6 y7 y8, LeO (abugidalaw06_ClusterBases.j1 k y0 y1 y2 y3 y4 y5 y6 y7 y8) (abugidalaw06_ClusterBases.j1 (k + 1) y0 y1 y2 y3 y4 y5 y6 y7 y8)) ∧ (∀ y0 y1 y2 y3 y4 y5 y6 y7 y8 y9, LeO (abugidalaw06_ClusterBases.l1 k y0 y1 y2 y3 y4 y5 y6 y7 y8 y9) (abugidalaw06_ClusterBases.l1 (k + 1) y0 y1 y2 y3 y4 y5 y6 y7 y8 y9))
  | 0 => ⟨fun _ _ _ _ _ r h => by simp [abugidalaw06_ClusterBases.l0] at h, fun _ _ _ _ _ _ _ _ _ r h => by simp [abugidalaw06_ClusterBases.j1] at h, fun _ _ _ _ _ _ _ _ _ _ r h => by simp [abugidalaw06_ClusterBases.l1] at h⟩
  | k + 1 => by
    obtain ⟨ih0, ih1, ih2⟩ := abugidalaw06_ClusterBases.mono_l k
    refine ⟨?_, ?_, ?_⟩
    · intro y0 y1 y2 y3 y4
      unfold abugidalaw06_ClusterBases.l0
      repeat' first
      | (with_reducible exact ih0 _ _ _ _ _)
      | (with_reducible exact ih1 _ _ _ _ _ _ _ _ _)
      | (with_reducible exact ih2 _ _ _ _ _ _ _ _ _ _)
      | (with_reducible exact abugidalaw06_sanity.mono _)
      | (with_reducible exact abugidaref06_Made.mono _ _ _)
      | (with_reducible exact chars_Extends.mono _ _)
      | (with_reducible exact cluster_Base.mono _ _ _ _)
      | (with_reducible exact LeO.refl _)
      | (with_reducible exact LeO.none _)
      | (with_reducible refine LeO.ite ?_ ?_)
      | (with_reducible refine LeO.bind ?_ (fun _ => ?_))
      | exact ih0 _ _ _ _ _
      | exact ih1 _ _ _ _ _ _ _ _ _
      | exact ih2 _ _ _ _ _ _ _ _ _ _
      | exact abugidalaw06_sanity.mono _
      | exact abugidaref06_Made.mono _ _ _
      | exact chars_Extends.mono _ _
      | exact cluster_Base.mono _ _ _ _
      | exact LeO.none _
      | refine LeO.ite ?_ ?_
      | refine LeO.bind ?_ (fun _ => ?_)
    · intro y0 y1 y2 y3 y4 y5 y6 y7 y8
      unfold abugidalaw06_ClusterBases.j1
      repeat' first
      | (with_reducible exact ih0 _ _ _ _ _)
      | (with_reducible exact ih1 _ _ _ _ _ _ _ _ _)
      | (with_reducible exact ih2 _ _ _ _ _ _ _ _ _ _)
      | (with_reducible exact abugidalaw06_sanity.mono _)
      | (with_reducible exact abugidaref06_Made.mono _ _ _)
      | (with_reducible exact chars_Extends.mono _ _)
      | (with_reducible exact cluster_Base.mono _ _ _ _)
      | (with_reducible exact LeO.refl _)
      | (with_reducible exact LeO.none _)
      | (with_reducible refine LeO.ite ?_ ?_)
      | (with_reducible refine LeO.bind ?_ (fun _ => ?_))
      | exact ih0 _ _ _ _ _
      | exact ih1 _ _ _ _ _ _ _ _ _
      | exact ih2 _ _ _ _ _ _ _ _ _ _
      | exact abugidalaw06_sanity.mono _
      | exact abugidaref06_Made.mono _ _ _
      | exact chars_Extends.mono _ _
      | exact cluster_Base.mono _ _ _ _
      | exact LeO.none _
      | refine LeO.ite ?_ ?_
      | refine LeO.bind ?_ (fun _ => ?_)
    · intro y0 y1 y2 y3 y4 y5 y6 y7 y8 y9
      unfold abugidalaw06_ClusterBases.l1
      repeat' first
      | (with_reducible exact ih0 _ _ _ _ _)
      | (with_reducible exact ih1 _ _ _ _ _ _ _ _ _)
      | (with_reducible exact ih2 _ _ _ _ _ _ _ _ _ _)
      | (with_reducible exact abugidalaw06_sanity.mono _)
      | (with_reducible exact abugidaref06_Made.mono _ _ _)
      | (with_reducible exact chars_Extends.mono _ _)
      | (with_reducible exact cluster_Base.mono _ _ _ _)
      | (with_reducible exact LeO.refl _)
      | (with_reducible exact LeO.none _)
      | (with_reducible refine LeO.ite ?_ ?_)
      | (with_reducible refine LeO.bind ?_ (fun _ => ?_))
      | exact ih0 _ _ _ _ _
      | exact ih1 _ _ _ _ _ _ _ _ _
      | exact ih2 _ _ _ _ _ _ _ _ _ _
      | exact abugidalaw06_sanity.mono _
      | exact abugidaref06_Made.mono _ _ _
      | exact chars_Extends.mono _ _
      | exact cluster_Base.mono _ _ _ _
      | exact LeO.none _
      | refine LeO.ite ?_ ?_
      | refine LeO.bind ?_ (fun _ => ?_)
theorem abugidalaw06_ClusterBases.mono : ∀ a0 k, LeO (abugidalaw06_ClusterBases.f k a0) (abugidalaw06_ClusterBases.f (k + 1) a0) := by
  intro a0 k
  obtain ⟨ih0, ih1, ih2⟩ := abugidalaw06_ClusterBases.mono_l k
  unfold abugidalaw06_ClusterBases.f
  repeat' first
      | (with_reducible exact ih0 _ _ _ _ _)
      | (with_reducible exact ih1 _ _ _ _ _ _ _ _ _)
      | (with_reducible exact ih2 _ _ _ _ _ _ _ _ _ _)
      | (with_reducible exact abugidalaw06_sanity.mono _)
      | (with_reducible exact abugidaref06_Made.mono _ _ _)
      | (with_reducible exact chars_Extends.mono _ _)
      | (with_reducible exact cluster_Base.mono _ _ _ _)
      | (with_reducible exact LeO.refl _)
      | (with_reducible exact LeO.none _)
      | (with_reducible refine LeO.ite ?_ ?_)
      | (with_reducible refine LeO.bind ?_ (fun _ => ?_))
      | exact ih0 _ _ _ _ _
      | exact ih1 _ _ _ _ _ _ _ _ _
      | exact ih2 _ _ _ _ _ _ _ _ _ _
      | exact abugidalaw06_sanity.mono _
      | exact abugidaref06_Made.mono _ _ _
      | exact chars_Extends.mono _ _
      | exact cluster_Base.mono _ _ _ _
      | exact LeO.none _
      | refine LeO.ite ?_ ?_
      | refine LeO.bind ?_ (fun _ => ?_)
set_option maxHeartbeats 8000000 in
set_option maxRecDepth 100000 in
theorem abugidalaw06_ClusterBases.calls (k : Nat) (A0 : Option Addr) (c0 : Nat) (l0 : List Int) (r : Bool) (w : World) (hr0 : Kd.C (Kd.int .i64) w A0 l0.length l0) (hc0 : l0.length ≤ c0) (h : abugidalaw06_ClusterBases.f k l0 = some r) :
    Calls Try.prog 7 #[.slice A0 l0.length c0] w fun e w' => e = .returned (.bool r) ∧ Below w.heap.size w w' := by
  have hu30 := Try.underlying30
  have HR0 := Aside0.mk hr0
  have HC0 := Aside0.mk hc0
  clear hr0 hc0
  have HB := Aside0.mk (Below.refl w.heap.size w)
  have H : ((abugidalaw06_sanity.f k).bind fun t255 => ((abugidaref06_Made.f k l0 60).bind fun t256 => ((cluster_Split.f t256).bind fun t257 => (abugidalaw06_ClusterBases.l0 k t255 t256 t257 (t257.length : Int) 0)))) = some r := h
  clear h
  replace H := Option.bind_eq_some_iff.mp H
  obtain ⟨t255, A20, H⟩ := H
  replace H : ((abugidaref06_Made.f k l0 60).bind fun t256 => ((cluster_Split.f t256).bind fun t257 => (abugidalaw06_ClusterBases.l0 k t255 t256 t257 (t257.length : Int) 0))) = some r := H
  have A2 := Aside0.mk A20
  clear A20
  replace H := Option.bind_eq_some_iff.mp H
  obtain ⟨t256, A30, H⟩ := H
  replace H : ((cluster_Split.f t256).bind fun t257 => (abugidalaw06_ClusterBases.l0 k t255 t256 t257 (t257.length : Int) 0)) = some r := H
  have A3 := Aside0.mk A30
  clear A30
  replace H := Option.bind_eq_some_iff.mp H
  obtain ⟨t257, A40, H⟩ := H
  replace H : (abugidalaw06_ClusterBases.l0 k t255 t256 t257 (t257.length : Int) 0) = some r := H
  have A4 := Aside0.mk A40
  clear A40
  have H' := Aside0.mk H
  clear H
  go_enter Try.func7, Try.ntmps7
  go_wp2_with (first | ((with_reducible refine gate_callee (f := 10) rfl ?_); refine goesL_ (some 11) rfl rfl Try.func10 (by kernel_rfl) rfl #[] rfl (by (try simp only [List.map_toArray, List.map_cons, List.map_nil]); first | done | rfl | (simp only [List.length_drop, List.length_take]; rfl)) ?_; (with_reducible refine (abugidalaw06_sanity.calls k  t255 _ A2.out).mono ?_); rintro e w5 ⟨rfl, hb⟩; refine ⟨_, rfl, ?_⟩; have n0_ := Aside0.mk (below_step (by repeat (first | (with_reducible first | exact HB.out | apply below_alloc | apply pw_below_drewN | apply below_drew1) | exact HB.out)) hb); clear HB; have HB := n0_; clear n0_; (try clear hb); (try clear hb2); (try clear hk); (try clear hi)) | ((with_reducible refine gate_callee (f := 11) rfl ?_); refine goesL_ (some 13) rfl rfl Try.func11 (by kernel_rfl) rfl #[.slice A0 l0.length c0, .int .i64 60] rfl (by (try simp only [List.map_toArray, List.map_cons, List.map_nil]); first | done | rfl | (simp only [List.length_drop, List.length_take]; rfl)) ?_; (with_reducible refine (abugidaref06_Made.calls k _ _ l0 60 t256 _ ?side1 ?side2 A3.out).mono ?_); (case side1 => repeat (first | exact (Kd.C_below HR0.out HB.out) | (with_reducible refine Kd.C_alloc ?_ _) | (with_reducible refine Kd.C_drewN ?_ _) | (with_reducible refine Kd.C_drew ?_))); (case side2 => exact HC0.out); rintro e w6 ⟨rfl, hb⟩; refine ⟨_, rfl, ?_⟩; have n0_ := Aside0.mk (below_step (by repeat (first | (with_reducible first | exact HB.out | apply below_alloc | apply pw_below_drewN | apply below_drew1) | exact HB.out)) hb); clear HB; have HB := n0_; clear n0_; (try clear hb); (try clear hb2); (try clear hk); (try clear hi)) | ((with_reducible refine gate_callee (f := 13) rfl ?_); refine goesL_ (some 15) rfl rfl Try.func13 (by kernel_rfl) rfl #[.string t256] rfl (by (try simp only [List.map_toArray, List.map_cons, List.map_nil]); first | done | rfl | (simp only [List.length_drop, List.length_take]; rfl)) ?_; (with_reducible refine (cluster_Split.calls t256 t257 _ A4.out).mono ?_); rintro e w7 ⟨v258, rfl, ho0, hb⟩; refine ⟨_, rfl, ?_⟩; have n0_ := Aside0.mk (Kd.R_lower ho0 (below_size (by repeat (first | (with_reducible first | exact HB.out | apply below_alloc | apply pw_below_drewN | apply below_drew1) | exact HB.out)))); have n1_ := Aside0.mk (below_step (by repeat (first | (with_reducible first | exact HB.out | apply below_alloc | apply pw_below_drewN | apply below_drew1) | exact HB.out)) hb); clear HB; have HO259 := n0_; have HB := n1_; clear n0_ n1_; (try clear hb); (try clear hb2); (try clear hk); (try clear hi); (try clear ho0); obtain ⟨Ao8, co8, eo8⟩ := Kd.R_slice HO259.out; subst eo8))
  go_loopg [17] k (fun kq v17 w' => ∃ (x17_1 : Int), v17 = .int .i64 x17_1 ∧ Aside0 (abugidalaw06_ClusterBases.l0 kq t255 t256 t257 (t257.length : Int) x17_1 = some r) ∧ Aside0 (kq ≤ k) ∧ Aside0 (Kd.R k30 30 w' w.heap.size (fun _ => True) (.slice Ao8 t257.length co8) t257) ∧ Aside0 (Below w.heap.size w w'))
  case atStart => exact ⟨(0), (by first | rfl | (simp; done) | (simp [*]; done)), H', ⟨Nat.le_refl _⟩, ⟨by (with_reducible repeat (first | apply Kd.R_alloc | apply Kd.R_drewN | apply Kd.R_drew)); exact HO259.out⟩, ⟨by repeat (first | (with_reducible first | exact HB.out | apply below_alloc | apply pw_below_drewN | apply below_drew1) | exact HB.out)⟩⟩
  case round =>
    clear H'
    try clear c1
    try clear p2
    try clear c7
    obtain ⟨x17_1, rfl, HA, HK1, HO_15, HB⟩ := hrel
    cases gk with
    | zero => exact absurd HA.out (by simp [abugidalaw06_ClusterBases.l0])
    | succ k1 =>
      have H := HA.out
      clear HA
      simp only [abugidalaw06_ClusterBases.l0] at H
      by_cases c9 : x17_1 < (t257.length : Int)
      · rw [if_pos c9] at H
        have c9b0 : decide (x17_1 < (t257.length : Int)) = true := decide_eq_true c9
        clear c9
        by_cases c10 : 0 ≤ x17_1
        · rw [if_pos c10] at H
          have c10b0 : decide (0 ≤ x17_1) = true := decide_eq_true c10
          clear c10
          by_cases c11 : x17_1 < (t257.length : Int)
          · rw [if_pos c11] at H
            have c11b0 : decide (x17_1 < (t257.length : Int)) = true := decide_eq_true c11
            clear c11
            replace H := Option.bind_eq_some_iff.mp H
            obtain ⟨t262, A120, H⟩ := H
            replace H : (if ((rd_T30 t257 x17_1).f0) < 0 then (abugidalaw06_ClusterBases.j1 k1 t255 t256 t262 t257 (t257.length : Int) x17_1 true ((rd_T30 t257 x17_1).f0) ((rd_T30 t257 x17_1).f1)) else (if ((rd_T30 t257 x17_1).f1) > (t256.size : Int) then (abugidalaw06_ClusterBases.j1 k1 t255 t256 t262 t257 (t257.length : Int) x17_1 true ((rd_T30 t257 x17_1).f0) ((rd_T30 t257 x17_1).f1)) else (if t262 < ((rd_T30 t257 x17_1).f0) then (abugidalaw06_ClusterBases.j1 k1 t255 t256 t262 t257 (t257.length : Int) x17_1 true ((rd_T30 t257 x17_1).f0) ((rd_T30 t257 x17_1).f1)) else (abugidalaw06_ClusterBases.j1 k1 t255 t256 t262 t257 (t257.length : Int) x17_1 (decide (t262 ≥ ((rd_T30 t257 x17_1).f1))) ((rd_T30 t257 x17_1).f0) ((rd_T30 t257 x17_1).f1))))) = some r := H
            have A12 := Aside0.mk A120
            clear A120
            have HC13 := Aside0.mk H
            clear H
            have p260 : 0 ≤ (x17_1 : Int) := of_decide_eq_true (by first | (with_reducible assumption) | assumption)
            have q260 : x17_1 < (t257.length : Int) := of_decide_eq_true (by first | (with_reducible assumption) | assumption)
            obtain ⟨ad260, e260, hx260_0, hx260_1⟩ := at_T30 (Kd.R_reads' HO_15.out).2.2 x17_1 p260 q260
            cases e260
            replace p260 := eq_true p260
            replace q260 := eq_true q260
            go_upto_region 7 with (first | ((with_reducible refine gate_dst (N := 6) rfl ?_); (try (refine gate_guard (by rfl) ?_; dsimp only)); refine box_event ?hg (N := 6) ?hd (cs := #[.int .i64 0, .int .i64 0]) (t := 30) ?hr ?_; (case hd => rfl); (case hg => rfl); (case hr => first | (go_simp; done) | (go_simp; rfl)); intro gb261 hg w14 hbox hb; have n0_ := Aside0.mk (Kd.R_below (Kd.R_elderB (by (with_reducible repeat (first | apply Kd.R_alloc | apply Kd.R_drewN | apply Kd.R_drew)); exact HO_15.out) gb261 (Nat.le_of_eq hg.symm)) hb); have n1_ := Aside0.mk (below_step (by repeat (first | (with_reducible first | exact HB.out | apply below_alloc | apply pw_below_drewN | apply below_drew1) | exact HB.out)) hb); have n2_ := Aside0.mk (hbox); have n3_ := Aside0.mk ((by rw [hg]; exact (below_size (by repeat (first | (with_reducible first | exact HB.out | apply below_alloc | apply pw_below_drewN | apply below_drew1) | exact HB.out))) : w.heap.size ≤ gb261)); have n4_ := Aside0.mk ((by rw [hg]; exact (below_size (by repeat (first | (with_reducible first | exact HB.out | apply below_alloc | apply pw_below_drewN | apply below_drew1) | exact HB.out))) : w.heap.size ≤ gb261)); clear HO_15; clear HB; have HO_15 := n0_; have HB := n1_; have BK261 := n2_; have GW261 := n3_; have GE261 := n4_; clear n0_ n1_ n2_ n3_ n4_; clear hb hbox hg; have hcz15_0 : w14.cell? ⟨gb261, 0, none⟩ = some (.int .i64 0) := (blk_cell BK261.out 0).trans rfl; have hcz15_1 : w14.cell? ⟨gb261, 1, none⟩ = some (.int .i64 0) := (blk_cell BK261.out 1).trans rfl; have hfz15_0 := blk_frozen BK261.out 0; have hfz15_1 := blk_frozen BK261.out 1) | ((with_reducible refine gate_callee (f := 17) rfl ?_); refine goesL_ (some 23) rfl rfl Try.func17 (by kernel_rfl) rfl #[.string t256, .agg #[.int .i64 ((rd_T30 t257 x17_1).f0), .int .i64 ((rd_T30 t257 x17_1).f1)]] rfl (by (try simp only [List.map_toArray, List.map_cons, List.map_nil]); first | done | rfl | (simp only [List.length_drop, List.length_take]; rfl)) ?_; (with_reducible refine (cluster_Base.calls k1 t256 ((rd_T30 t257 x17_1).f0) ((rd_T30 t257 x17_1).f1) t262 _ A12.out).mono ?_); rintro e w16 ⟨rfl, hb⟩; refine ⟨_, rfl, ?_⟩; have n0_ := Aside0.mk (Kd.R_below (by (with_reducible repeat (first | apply Kd.R_alloc | apply Kd.R_drewN | apply Kd.R_drew)); exact (Kd.R_mono (Kd.R_far (p := ⟨gb261, 1, none⟩) (Kd.R_far (p := ⟨gb261, 0, none⟩) (Kd.R_mono HO_15.out (fun k_ hk => (⟨hk, hk.2⟩ : _ ∧ k_ ≠ gb261))) (fun _ hk => hk.2) (.int .i64 ((rd_T30 t257 x17_1).f0))) (fun _ hk => hk.2) (.int .i64 ((rd_T30 t257 x17_1).f1))) (fun _ h_ => h_.1))) hb); have n1_ := Aside0.mk (blk_below (g := gb261) (o := .cells #[.int .i64 ((rd_T30 t257 x17_1).f0), .int .i64 ((rd_T30 t257 x17_1).f1)] 30 (0, 0)) (by (with_reducible repeat (first | refine blk_drewN ?_ _ | refine blk_drew ?_ | refine blk_alloc ?_ _)); refine blk_put (cs := #[.int .i64 ((rd_T30 t257 x17_1).f0), .int .i64 0]) ?_ 1 _ rfl; (with_reducible repeat (first | refine blk_drewN ?_ _ | refine blk_drew ?_ | refine blk_alloc ?_ _)); refine blk_put (cs := #[.int .i64 0, .int .i64 0]) ?_ 0 _ rfl; (with_reducible repeat (first | refine blk_drewN ?_ _ | refine blk_drew ?_ | refine blk_alloc ?_ _)); exact BK261.out) hb); have n2_ := Aside0.mk (below_step (by repeat (first | (with_reducible first | exact HB.out | apply below_alloc | apply pw_below_drewN | apply below_drew1 | refine below_set ?_ GE261.out) | exact HB.out)) hb); clear HO_15; clear BK261; clear HB; have HO_15 := n0_; have BK261 := n1_; have HB := n2_; clear n0_ n1_ n2_; (try clear hb); (try clear hb2); (try clear hk); (try clear hi)))
            (try simp only [Act.put, List.setIfInBounds_toArray, List.set_cons_zero, List.set_cons_succ])
            go_cut [45] (fun v45 wc => ∃ (kq : Nat) (x45_12 : Bool), v45 = .bool x45_12 ∧ Aside0 (abugidalaw06_ClusterBases.j1 kq t255 t256 t262 t257 (t257.length : Int) x17_1 x45_12 ((rd_T30 t257 x17_1).f0) ((rd_T30 t257 x17_1).f1) = some r) ∧ Aside0 (kq ≤ k1) ∧ Aside0 (Kd.R k30 30 wc w.heap.size (fun k_ => k_ ≠ gb261) (.slice (some ad260) t257.length co8) t257) ∧ Aside0 (wc.heap[gb261]? = some (.cells #[.int .i64 ((rd_T30 t257 x17_1).f0), .int .i64 ((rd_T30 t257 x17_1).f1)] 30 (0, 0))) ∧ Aside0 (Below w.heap.size w wc))
            case first =>
              have H := HC13.out
              clear HC13
              by_cases c17 : ((rd_T30 t257 x17_1).f0) < 0
              · rw [if_pos c17] at H
                have c17b0 : decide (((rd_T30 t257 x17_1).f0) < 0) = true := decide_eq_true c17
                clear c17
                (first | rw [c17b0] | (simp only [i64_w, i32_w]; rw [c17b0]) | skip)
                have H' := Aside0.mk H
                clear H
                have hcz18_0 : w16.cell? ⟨gb261, 0, none⟩ = some (.int .i64 ((rd_T30 t257 x17_1).f0)) := (blk_cell BK261.out 0).trans rfl
                have hcz18_1 : w16.cell? ⟨gb261, 1, none⟩ = some (.int .i64 ((rd_T30 t257 x17_1).f1)) := (blk_cell BK261.out 1).trans rfl
                have hfz18_0 := blk_frozen BK261.out 0
                have hfz18_1 := blk_frozen BK261.out 1
                go_wp2
                go_meet
                case rel => exact ⟨_, (true), (by first | rfl | (simp; done) | (simp [*]; done)), H', ⟨by have := HK1.out; first | omega | exact Nat.le_refl _⟩, ⟨by (with_reducible repeat (first | apply Kd.R_alloc | apply Kd.R_drewN | apply Kd.R_drew)); exact Kd.R_mono HO_15.out (fun _ hk => hk.2)⟩, ⟨by (with_reducible repeat (first | refine blk_drewN ?_ _ | refine blk_drew ?_ | refine blk_alloc ?_ _)); exact BK261.out⟩, ⟨by repeat (first | (with_reducible first | exact HB.out | apply below_alloc | apply pw_below_drewN | apply below_drew1 | refine below_set ?_ GE261.out) | exact HB.out)⟩⟩
              · rw [if_neg c17] at H
                have c17b0 : decide (((rd_T30 t257 x17_1).f0) < 0) = false := decide_eq_false c17
                clear c17
                (first | rw [c17b0] | (simp only [i64_w, i32_w]; rw [c17b0]) | skip)
                by_cases c19 : ((rd_T30 t257 x17_1).f1) > (t256.size : Int)
                · rw [if_pos c19] at H
                  have c19b0 : decide ((t256.size : Int) < ((rd_T30 t257 x17_1).f1)) = true := decide_eq_true c19
                  clear c19
                  have H' := Aside0.mk H
                  clear H
                  have hcz20_0 : w16.cell? ⟨gb261, 0, none⟩ = some (.int .i64 ((rd_T30 t257 x17_1).f0)) := (blk_cell BK261.out 0).trans rfl
                  have hcz20_1 : w16.cell? ⟨gb261, 1, none⟩ = some (.int .i64 ((rd_T30 t257 x17_1).f1)) := (blk_cell BK261.out 1).trans rfl
                  have hfz20_0 := blk_frozen BK261.out 0
                  have hfz20_1 := blk_frozen BK261.out 1
                  go_wp2
                  go_meet
                  case rel => exact ⟨_, (true), (by first | rfl | (simp; done) | (simp [*]; done)), H', ⟨by have := HK1.out; first | omega | exact Nat.le_refl _⟩, ⟨by (with_reducible repeat (first | apply Kd.R_alloc | apply Kd.R_drewN | apply Kd.R_drew)); exact Kd.R_mono HO_15.out (fun _ hk => hk.2)⟩, ⟨by (with_reducible repeat (first | refine blk_drewN ?_ _ | refine blk_drew ?_ | refine blk_alloc ?_ _)); exact BK261.out⟩, ⟨by repeat (first | (with_reducible first | exact HB.out | apply below_alloc | apply pw_below_drewN | apply below_drew1 | refine below_set ?_ GE261.out) | exact HB.out)⟩⟩
                · rw [if_neg c19] at H
                  have c19b0 : decide ((t256.size : Int) < ((rd_T30 t257 x17_1).f1)) = false := decide_eq_false c19
                  clear c19
                  by_cases c21 : t262 < ((rd_T30 t257 x17_1).f0)
                  · rw [if_pos c21] at H
                    have c21b0 : decide (t262 < ((rd_T30 t257 x17_1).f0)) = true := decide_eq_true c21
                    clear c21
                    have H' := Aside0.mk H
                    clear H
                    have hcz22_0 : w16.cell? ⟨gb261, 0, none⟩ = some (.int .i64 ((rd_T30 t257 x17_1).f0)) := (blk_cell BK261.out 0).trans rfl
                    have hcz22_1 : w16.cell? ⟨gb261, 1, none⟩ = some (.int .i64 ((rd_T30 t257 x17_1).f1)) := (blk_cell BK261.out 1).trans rfl
                    have hfz22_0 := blk_frozen BK261.out 0
                    have hfz22_1 := blk_frozen BK261.out 1
                    go_wp2
                    go_meet
                    case rel => exact ⟨_, (true), (by first | rfl | (simp; done) | (simp [*]; done)), H', ⟨by have := HK1.out; first | omega | exact Nat.le_refl _⟩, ⟨by (with_reducible repeat (first | apply Kd.R_alloc | apply Kd.R_drewN | apply Kd.R_drew)); exact Kd.R_mono HO_15.out (fun _ hk => hk.2)⟩, ⟨by (with_reducible repeat (first | refine blk_drewN ?_ _ | refine blk_drew ?_ | refine blk_alloc ?_ _)); exact BK261.out⟩, ⟨by repeat (first | (with_reducible first | exact HB.out | apply below_alloc | apply pw_below_drewN | apply below_drew1 | refine below_set ?_ GE261.out) | exact HB.out)⟩⟩
                  · rw [if_neg c21] at H
                    have c21b0 : decide (t262 < ((rd_T30 t257 x17_1).f0)) = false := decide_eq_false c21
                    clear c21
                    have H' := Aside0.mk H
                    clear H
                    have hcz23_0 : w16.cell? ⟨gb261, 0, none⟩ = some (.int .i64 ((rd_T30 t257 x17_1).f0)) := (blk_cell BK261.out 0).trans rfl
                    have hcz23_1 : w16.cell? ⟨gb261, 1, none⟩ = some (.int .i64 ((rd_T30 t257 x17_1).f1)) := (blk_cell BK261.out 1).trans rfl
                    have hfz23_0 := blk_frozen BK261.out 0
                    have hfz23_1 := blk_frozen BK261.out 1
                    go_wp2
                    go_meet
                    case rel => exact ⟨_, (decide (t262 ≥ ((rd_T30 t257 x17_1).f1))), (by first | rfl | (simp; done) | (simp [*]; done)), H', ⟨by have := HK1.out; first | omega | exact Nat.le_refl _⟩, ⟨by (with_reducible repeat (first | apply Kd.R_alloc | apply Kd.R_drewN | apply Kd.R_drew)); exact Kd.R_mono HO_15.out (fun _ hk => hk.2)⟩, ⟨by (with_reducible repeat (first | refine blk_drewN ?_ _ | refine blk_drew ?_ | refine blk_alloc ?_ _)); exact BK261.out⟩, ⟨by repeat (first | (with_reducible first | exact HB.out | apply below_alloc | apply pw_below_drewN | apply below_drew1 | refine below_set ?_ GE261.out) | exact HB.out)⟩⟩
            case rest =>
              clear HC13
              try clear c1
              try clear c2
              try clear p2
              try clear q2
              try clear hx2
              try clear c7
              try clear c9
              try clear c9b0
              try clear c10
              try clear c10b0
              try clear c11
              try clear c11b0
              try clear c13
              try clear c17
              try clear c17b0
              try clear c19
              try clear c19b0
              try clear c21
              try clear c21b0
              try clear hcz15_0
              try clear hcz15_1
              try clear hcz18_0
              try clear hcz18_1
              try clear hcz20_0
              try clear hcz20_1
              try clear hcz22_0
              try clear hcz22_1
              try clear hcz23_0
              try clear hcz23_1
              try clear hfz15_0
              try clear hfz15_1
              try clear hfz18_0
              try clear hfz18_1
              try clear hfz20_0
              try clear hfz20_1
              try clear hfz22_0
              try clear hfz22_1
              try clear hfz23_0
              try clear hfz23_1
              try clear hx260_0
              try clear hx260_1
              try clear p2
              try clear p260
              try clear q260
              obtain ⟨kq, x45_12, rfl, HA, HJ12, HO_15, BK261, HB⟩ := hcut
              cases kq with
              | zero => exact absurd HA.out (by simp [abugidalaw06_ClusterBases.j1])
              | succ kj12 =>
                have H := HA.out
                clear HA
                simp only [abugidalaw06_ClusterBases.j1] at H
                by_cases c24 : x45_12 = true
                · subst c24
                  have H1 : (some false) = some r := by rw [if_pos rfl] at H; exact H
                  clear H
                  have H := H1
                  clear H1
                  obtain rfl := Option.some.inj H
                  go_wp2
                  go_ret
                  exact ⟨by first | rfl | (simp [errW_none, errW_some] <;> rfl) | (simp [*, errW_none, errW_some] <;> rfl), by repeat (first | (with_reducible first | exact HB.out | apply below_alloc | apply pw_below_drewN | apply below_drew1 | refine below_set ?_ GE261.out) | exact HB.out)⟩
                · replace c24 := Bool.eq_false_iff.mpr c24
                  subst c24
                  have H1 : (abugidalaw06_ClusterBases.l1 kj12 t255 t256 t262 true ((rd_T30 t257 x17_1).f0) t257 (t257.length : Int) x17_1 ((rd_T30 t257 x17_1).f0) ((rd_T30 t257 x17_1).f1)) = some r := by rw [if_neg (show ¬ (false = true) by decide)] at H; exact H
                  clear H
                  have H := H1
                  clear H1
                  have H' := Aside0.mk H
                  clear H
                  have hcz25_0 : wc.cell? ⟨gb261, 0, none⟩ = some (.int .i64 ((rd_T30 t257 x17_1).f0)) := (blk_cell BK261.out 0).trans rfl
                  have hcz25_1 : wc.cell? ⟨gb261, 1, none⟩ = some (.int .i64 ((rd_T30 t257 x17_1).f1)) := (blk_cell BK261.out 1).trans rfl
                  have hfz25_0 := blk_frozen BK261.out 0
                  have hfz25_1 := blk_frozen BK261.out 1
                  go_wp2
                  go_loopg [8, 9] kj12 (fun kq v8 v9 w' => ∃ (x8_3 : Bool) (x9_3 : Int), v8 = .bool x8_3 ∧ v9 = .int .i64 x9_3 ∧ Aside0 (abugidalaw06_ClusterBases.l1 kq t255 t256 t262 x8_3 x9_3 t257 (t257.length : Int) x17_1 ((rd_T30 t257 x17_1).f0) ((rd_T30 t257 x17_1).f1) = some r) ∧ Aside0 (kq ≤ kj12) ∧ Aside0 (Kd.R k30 30 w' w.heap.size (fun k_ => k_ ≠ gb261) (.slice (some ad260) t257.length co8) t257) ∧ Aside0 (w'.heap[gb261]? = some (.cells #[.int .i64 ((rd_T30 t257 x17_1).f0), .int .i64 ((rd_T30 t257 x17_1).f1)] 30 (0, 0))) ∧ Aside0 (Below w.heap.size w w'))
                  case atStart => exact ⟨(true), (((rd_T30 t257 x17_1).f0)), (by first | rfl | (simp; done) | (simp [*]; done)), (by first | rfl | (simp; done) | (simp [*]; done)), H', ⟨Nat.le_refl _⟩, ⟨by (with_reducible repeat (first | apply Kd.R_alloc | apply Kd.R_drewN | apply Kd.R_drew)); exact HO_15.out⟩, ⟨by (with_reducible repeat (first | refine blk_drewN ?_ _ | refine blk_drew ?_ | refine blk_alloc ?_ _)); exact BK261.out⟩, ⟨by repeat (first | (with_reducible first | exact HB.out | apply below_alloc | apply pw_below_drewN | apply below_drew1 | refine below_set ?_ GE261.out) | exact HB.out)⟩⟩
                  case round =>
                    clear H'
                    try clear c1
                    try clear c2
                    try clear p2
                    try clear q2
                    try clear hx2
                    try clear c7
                    try clear c9
                    try clear c9b0
                    try clear c10
                    try clear c10b0
                    try clear c11
                    try clear c11b0
                    try clear c13
                    try clear c17
                    try clear c17b0
                    try clear c19
                    try clear c19b0
                    try clear c21
                    try clear c21b0
                    try clear c24
                    try clear hcz15_0
                    try clear hcz15_1
                    try clear hcz18_0
                    try clear hcz18_1
                    try clear hcz20_0
                    try clear hcz20_1
                    try clear hcz22_0
                    try clear hcz22_1
                    try clear hcz23_0
                    try clear hcz23_1
                    try clear hcz25_0
                    try clear hcz25_1
                    try clear hfz15_0
                    try clear hfz15_1
                    try clear hfz18_0
                    try clear hfz18_1
                    try clear hfz20_0
                    try clear hfz20_1
                    try clear hfz22_0
                    try clear hfz22_1
                    try clear hfz23_0
                    try clear hfz23_1
                    try clear hfz25_0
                    try clear hfz25_1
                    try clear hx260_0
                    try clear hx260_1
                    try clear p2
                    try clear p260
                    try clear q2
                    try clear q260
                    obtain ⟨x8_3, x9_3, rfl, rfl, HA, HK3, HO_15, BK261, HB⟩ := hrel
                    cases gk with
                    | zero => exact absurd HA.out (by simp [abugidalaw06_ClusterBases.l1])
                    | succ k3 =>
                      have H := HA.out
                      clear HA
                      simp only [abugidalaw06_ClusterBases.l1] at H
                      by_cases c26 : x9_3 < ((rd_T30 t257 x17_1).f1)
                      · rw [if_pos c26] at H
                        have c26b0 : decide (x9_3 < ((rd_T30 t257 x17_1).f1)) = true := decide_eq_true c26
                        clear c26
                        by_cases c27 : 0 ≤ x9_3
                        · rw [if_pos c27] at H
                          have c27b0 : decide (0 ≤ x9_3) = true := decide_eq_true c27
                          clear c27
                          by_cases c28 : x9_3 < (t256.size : Int)
                          · rw [if_pos c28] at H
                            have c28b0 : decide (x9_3 < (t256.size : Int)) = true := decide_eq_true c28
                            clear c28
                            replace H := Option.bind_eq_some_iff.mp H
                            obtain ⟨t263, A300, H⟩ := H
                            replace H : (if x8_3 = true then (if x9_3 < t262 then (if t263 = true then (abugidalaw06_ClusterBases.l1 k3 t255 t256 t262 t263 (wrap64 (x9_3 + 1)) t257 (t257.length : Int) x17_1 ((rd_T30 t257 x17_1).f0) ((rd_T30 t257 x17_1).f1)) else (some false)) else (abugidalaw06_ClusterBases.l1 k3 t255 t256 t262 t263 (wrap64 (x9_3 + 1)) t257 (t257.length : Int) x17_1 ((rd_T30 t257 x17_1).f0) ((rd_T30 t257 x17_1).f1))) else (if x9_3 < t262 then (if t263 = true then (abugidalaw06_ClusterBases.l1 k3 t255 t256 t262 false (wrap64 (x9_3 + 1)) t257 (t257.length : Int) x17_1 ((rd_T30 t257 x17_1).f0) ((rd_T30 t257 x17_1).f1)) else (some false)) else (abugidalaw06_ClusterBases.l1 k3 t255 t256 t262 false (wrap64 (x9_3 + 1)) t257 (t257.length : Int) x17_1 ((rd_T30 t257 x17_1).f0) ((rd_T30 t257 x17_1).f1)))) = some r := H
                            have A30 := Aside0.mk A300
                            clear A300
                            by_cases c31 : x8_3 = true
                            · subst c31
                              have H1 : (if x9_3 < t262 then (if t263 = true then (abugidalaw06_ClusterBases.l1 k3 t255 t256 t262 t263 (wrap64 (x9_3 + 1)) t257 (t257.length : Int) x17_1 ((rd_T30 t257 x17_1).f0) ((rd_T30 t257 x17_1).f1)) else (some false)) else (abugidalaw06_ClusterBases.l1 k3 t255 t256 t262 t263 (wrap64 (x9_3 + 1)) t257 (t257.length : Int) x17_1 ((rd_T30 t257 x17_1).f0) ((rd_T30 t257 x17_1).f1))) = some r := by rw [if_pos rfl] at H; exact H
                              clear H
                              have H := H1
                              clear H1
                              by_cases c32 : x9_3 < t262
                              · rw [if_pos c32] at H
                                have c32b0 : decide (x9_3 < t262) = true := decide_eq_true c32
                                clear c32
                                by_cases c33 : t263 = true
                                · subst c33
                                  have H1 : (abugidalaw06_ClusterBases.l1 k3 t255 t256 t262 true (wrap64 (x9_3 + 1)) t257 (t257.length : Int) x17_1 ((rd_T30 t257 x17_1).f0) ((rd_T30 t257 x17_1).f1)) = some r := by rw [if_pos rfl] at H; exact H
                                  clear H
                                  have H := H1
                                  clear H1
                                  have H' := Aside0.mk H
                                  clear H
                                  have hcz34_0 : wr.cell? ⟨gb261, 0, none⟩ = some (.int .i64 ((rd_T30 t257 x17_1).f0)) := (blk_cell BK261.out 0).trans rfl
                                  have hcz34_1 : wr.cell? ⟨gb261, 1, none⟩ = some (.int .i64 ((rd_T30 t257 x17_1).f1)) := (blk_cell BK261.out 1).trans rfl
                                  have hfz34_0 := blk_frozen BK261.out 0
                                  have hfz34_1 := blk_frozen BK261.out 1
                                  have p29 : 0 ≤ (x9_3 : Int) := of_decide_eq_true (by first | (with_reducible assumption) | assumption)
                                  have q29 : x9_3 < (t256.size : Int) := of_decide_eq_true (by first | (with_reducible assumption) | assumption)
                                  have hx29 := bt_at t256 x9_3
                                  replace p29 := eq_true p29
                                  replace q29 := eq_true q29
                                  go_wp2_with (first | ((with_reducible refine gate_callee (f := 20) rfl ?_); refine goesL_ (some 58) rfl rfl Try.func20 (by kernel_rfl) rfl #[.int .i64 (wrap64 (bt t256 x9_3))] rfl (by (try simp only [List.map_toArray, List.map_cons, List.map_nil]); first | done | rfl | (simp only [List.length_drop, List.length_take]; rfl)) ?_; (with_reducible refine (chars_Extends.calls k3 (wrap64 (bt t256 x9_3)) true _ A30.out).mono ?_); rintro e w35 ⟨rfl, hb⟩; refine ⟨_, rfl, ?_⟩; have n0_ := Aside0.mk (Kd.R_below (by (with_reducible repeat (first | apply Kd.R_alloc | apply Kd.R_drewN | apply Kd.R_drew)); exact HO_15.out) hb); have n1_ := Aside0.mk (blk_below (g := gb261) (o := .cells #[.int .i64 ((rd_T30 t257 x17_1).f0), .int .i64 ((rd_T30 t257 x17_1).f1)] 30 (0, 0)) (by (with_reducible repeat (first | refine blk_drewN ?_ _ | refine blk_drew ?_ | refine blk_alloc ?_ _)); exact BK261.out) hb); have n2_ := Aside0.mk (below_step (by repeat (first | (with_reducible first | exact HB.out | apply below_alloc | apply pw_below_drewN | apply below_drew1 | refine below_set ?_ GE261.out) | exact HB.out)) hb); clear HO_15; clear BK261; clear HB; have HO_15 := n0_; have BK261 := n1_; have HB := n2_; clear n0_ n1_ n2_; (try clear hb); (try clear hb2); (try clear hk); (try clear hi)))
                                  go_roundg k3
                                  case measure => have := HK1.out; have := HJ12.out; have := HK3.out; omega
                                  case rel => exact ⟨(true), (wrap64 (x9_3 + 1)), (by first | rfl | (simp; done) | (simp [*]; done)), (by first | rfl | (simp; done) | (simp [*]; done)), H', ⟨by have := HK1.out; have := HJ12.out; have := HK3.out; omega⟩, ⟨by (with_reducible repeat (first | apply Kd.R_alloc | apply Kd.R_drewN | apply Kd.R_drew)); exact HO_15.out⟩, ⟨by (with_reducible repeat (first | refine blk_drewN ?_ _ | refine blk_drew ?_ | refine blk_alloc ?_ _)); exact BK261.out⟩, ⟨by repeat (first | (with_reducible first | exact HB.out | apply below_alloc | apply pw_below_drewN | apply below_drew1 | refine below_set ?_ GE261.out) | exact HB.out)⟩⟩
                                · replace c33 := Bool.eq_false_iff.mpr c33
                                  subst c33
                                  have H1 : (some false) = some r := by rw [if_neg (show ¬ (false = true) by decide)] at H; exact H
                                  clear H
                                  have H := H1
                                  clear H1
                                  obtain rfl := Option.some.inj H
                                  have hcz36_0 : wr.cell? ⟨gb261, 0, none⟩ = some (.int .i64 ((rd_T30 t257 x17_1).f0)) := (blk_cell BK261.out 0).trans rfl
                                  have hcz36_1 : wr.cell? ⟨gb261, 1, none⟩ = some (.int .i64 ((rd_T30 t257 x17_1).f1)) := (blk_cell BK261.out 1).trans rfl
                                  have hfz36_0 := blk_frozen BK261.out 0
                                  have hfz36_1 := blk_frozen BK261.out 1
                                  have p29 : 0 ≤ (x9_3 : Int) := of_decide_eq_true (by first | (with_reducible assumption) | assumption)
                                  have q29 : x9_3 < (t256.size : Int) := of_decide_eq_true (by first | (with_reducible assumption) | assumption)
                                  have hx29 := bt_at t256 x9_3
                                  replace p29 := eq_true p29
                                  replace q29 := eq_true q29
                                  go_wp2_with (first | ((with_reducible refine gate_callee (f := 20) rfl ?_); refine goesL_ (some 58) rfl rfl Try.func20 (by kernel_rfl) rfl #[.int .i64 (wrap64 (bt t256 x9_3))] rfl (by (try simp only [List.map_toArray, List.map_cons, List.map_nil]); first | done | rfl | (simp only [List.length_drop, List.length_take]; rfl)) ?_; (with_reducible refine (chars_Extends.calls k3 (wrap64 (bt t256 x9_3)) false _ A30.out).mono ?_); rintro e w37 ⟨rfl, hb⟩; refine ⟨_, rfl, ?_⟩; have n0_ := Aside0.mk (Kd.R_below (by (with_reducible repeat (first | apply Kd.R_alloc | apply Kd.R_drewN | apply Kd.R_drew)); exact HO_15.out) hb); have n1_ := Aside0.mk (blk_below (g := gb261) (o := .cells #[.int .i64 ((rd_T30 t257 x17_1).f0), .int .i64 ((rd_T30 t257 x17_1).f1)] 30 (0, 0)) (by (with_reducible repeat (first | refine blk_drewN ?_ _ | refine blk_drew ?_ | refine blk_alloc ?_ _)); exact BK261.out) hb); have n2_ := Aside0.mk (below_step (by repeat (first | (with_reducible first | exact HB.out | apply below_alloc | apply pw_below_drewN | apply below_drew1 | refine below_set ?_ GE261.out) | exact HB.out)) hb); clear HO_15; clear BK261; clear HB; have HO_15 := n0_; have BK261 := n1_; have HB := n2_; clear n0_ n1_ n2_; (try clear hb); (try clear hb2); (try clear hk); (try clear hi)))
                                  go_ret
                                  exact ⟨by first | rfl | (simp [errW_none, errW_some] <;> rfl) | (simp [*, errW_none, errW_some] <;> rfl), by repeat (first | (with_reducible first | exact HB.out | apply below_alloc | apply pw_below_drewN | apply below_drew1 | refine below_set ?_ GE261.out) | exact HB.out)⟩
                              · rw [if_neg c32] at H
                                have c32b0 : decide (x9_3 < t262) = false := decide_eq_false c32
                                clear c32
                                have H' := Aside0.mk H
                                clear H
                                have hcz38_0 : wr.cell? ⟨gb261, 0, none⟩ = some (.int .i64 ((rd_T30 t257 x17_1).f0)) := (blk_cell BK261.out 0).trans rfl
                                have hcz38_1 : wr.cell? ⟨gb261, 1, none⟩ = some (.int .i64 ((rd_T30 t257 x17_1).f1)) := (blk_cell BK261.out 1).trans rfl
                                have hfz38_0 := blk_frozen BK261.out 0
                                have hfz38_1 := blk_frozen BK261.out 1
                                have p29 : 0 ≤ (x9_3 : Int) := of_decide_eq_true (by first | (with_reducible assumption) | assumption)
                                have q29 : x9_3 < (t256.size : Int) := of_decide_eq_true (by first | (with_reducible assumption) | assumption)
                                have hx29 := bt_at t256 x9_3
                                replace p29 := eq_true p29
                                replace q29 := eq_true q29
                                go_wp2_with (first | ((with_reducible refine gate_callee (f := 20) rfl ?_); refine goesL_ (some 58) rfl rfl Try.func20 (by kernel_rfl) rfl #[.int .i64 (wrap64 (bt t256 x9_3))] rfl (by (try simp only [List.map_toArray, List.map_cons, List.map_nil]); first | done | rfl | (simp only [List.length_drop, List.length_take]; rfl)) ?_; (with_reducible refine (chars_Extends.calls k3 (wrap64 (bt t256 x9_3)) t263 _ A30.out).mono ?_); rintro e w39 ⟨rfl, hb⟩; refine ⟨_, rfl, ?_⟩; have n0_ := Aside0.mk (Kd.R_below (by (with_reducible repeat (first | apply Kd.R_alloc | apply Kd.R_drewN | apply Kd.R_drew)); exact HO_15.out) hb); have n1_ := Aside0.mk (blk_below (g := gb261) (o := .cells #[.int .i64 ((rd_T30 t257 x17_1).f0), .int .i64 ((rd_T30 t257 x17_1).f1)] 30 (0, 0)) (by (with_reducible repeat (first | refine blk_drewN ?_ _ | refine blk_drew ?_ | refine blk_alloc ?_ _)); exact BK261.out) hb); have n2_ := Aside0.mk (below_step (by repeat (first | (with_reducible first | exact HB.out | apply below_alloc | apply pw_below_drewN | apply below_drew1 | refine below_set ?_ GE261.out) | exact HB.out)) hb); clear HO_15; clear BK261; clear HB; have HO_15 := n0_; have BK261 := n1_; have HB := n2_; clear n0_ n1_ n2_; (try clear hb); (try clear hb2); (try clear hk); (try clear hi)))
                                go_roundg k3
                                case measure => have := HK1.out; have := HJ12.out; have := HK3.out; omega
                                case rel => exact ⟨(t263), (wrap64 (x9_3 + 1)), (by first | rfl | (simp; done) | (simp [*]; done)), (by first | rfl | (simp; done) | (simp [*]; done)), H', ⟨by have := HK1.out; have := HJ12.out; have := HK3.out; omega⟩, ⟨by (with_reducible repeat (first | apply Kd.R_alloc | apply Kd.R_drewN | apply Kd.R_drew)); exact HO_15.out⟩, ⟨by (with_reducible repeat (first | refine blk_drewN ?_ _ | refine blk_drew ?_ | refine blk_alloc ?_ _)); exact BK261.out⟩, ⟨by repeat (first | (with_reducible first | exact HB.out | apply below_alloc | apply pw_below_drewN | apply below_drew1 | refine below_set ?_ GE261.out) | exact HB.out)⟩⟩
                            · replace c31 := Bool.eq_false_iff.mpr c31
                              subst c31
                              have H1 : (if x9_3 < t262 then (if t263 = true then (abugidalaw06_ClusterBases.l1 k3 t255 t256 t262 false (wrap64 (x9_3 + 1)) t257 (t257.length : Int) x17_1 ((rd_T30 t257 x17_1).f0) ((rd_T30 t257 x17_1).f1)) else (some false)) else (abugidalaw06_ClusterBases.l1 k3 t255 t256 t262 false (wrap64 (x9_3 + 1)) t257 (t257.length : Int) x17_1 ((rd_T30 t257 x17_1).f0) ((rd_T30 t257 x17_1).f1))) = some r := by rw [if_neg (show ¬ (false = true) by decide)] at H; exact H
                              clear H
                              have H := H1
                              clear H1
                              by_cases c40 : x9_3 < t262
                              · rw [if_pos c40] at H
                                have c40b0 : decide (x9_3 < t262) = true := decide_eq_true c40
                                clear c40
                                by_cases c41 : t263 = true
                                · subst c41
                                  have H1 : (abugidalaw06_ClusterBases.l1 k3 t255 t256 t262 false (wrap64 (x9_3 + 1)) t257 (t257.length : Int) x17_1 ((rd_T30 t257 x17_1).f0) ((rd_T30 t257 x17_1).f1)) = some r := by rw [if_pos rfl] at H; exact H
                                  clear H
                                  have H := H1
                                  clear H1
                                  have H' := Aside0.mk H
                                  clear H
                                  have hcz42_0 : wr.cell? ⟨gb261, 0, none⟩ = some (.int .i64 ((rd_T30 t257 x17_1).f0)) := (blk_cell BK261.out 0).trans rfl
                                  have hcz42_1 : wr.cell? ⟨gb261, 1, none⟩ = some (.int .i64 ((rd_T30 t257 x17_1).f1)) := (blk_cell BK261.out 1).trans rfl
                                  have hfz42_0 := blk_frozen BK261.out 0
                                  have hfz42_1 := blk_frozen BK261.out 1
                                  have p29 : 0 ≤ (x9_3 : Int) := of_decide_eq_true (by first | (with_reducible assumption) | assumption)
                                  have q29 : x9_3 < (t256.size : Int) := of_decide_eq_true (by first | (with_reducible assumption) | assumption)
                                  have hx29 := bt_at t256 x9_3
                                  replace p29 := eq_true p29
                                  replace q29 := eq_true q29
                                  go_wp2_with (first | ((with_reducible refine gate_callee (f := 20) rfl ?_); refine goesL_ (some 58) rfl rfl Try.func20 (by kernel_rfl) rfl #[.int .i64 (wrap64 (bt t256 x9_3))] rfl (by (try simp only [List.map_toArray, List.map_cons, List.map_nil]); first | done | rfl | (simp only [List.length_drop, List.length_take]; rfl)) ?_; (with_reducible refine (chars_Extends.calls k3 (wrap64 (bt t256 x9_3)) true _ A30.out).mono ?_); rintro e w43 ⟨rfl, hb⟩; refine ⟨_, rfl, ?_⟩; have n0_ := Aside0.mk (Kd.R_below (by (with_reducible repeat (first | apply Kd.R_alloc | apply Kd.R_drewN | apply Kd.R_drew)); exact HO_15.out) hb); have n1_ := Aside0.mk (blk_below (g := gb261) (o := .cells #[.int .i64 ((rd_T30 t257 x17_1).f0), .int .i64 ((rd_T30 t257 x17_1).f1)] 30 (0, 0)) (by (with_reducible repeat (first | refine blk_drewN ?_ _ | refine blk_drew ?_ | refine blk_alloc ?_ _)); exact BK261.out) hb); have n2_ := Aside0.mk (below_step (by repeat (first | (with_reducible first | exact HB.out | apply below_alloc | apply pw_below_drewN | apply below_drew1 | refine below_set ?_ GE261.out) | exact HB.out)) hb); clear HO_15; clear BK261; clear HB; have HO_15 := n0_; have BK261 := n1_; have HB := n2_; clear n0_ n1_ n2_; (try clear hb); (try clear hb2); (try clear hk); (try clear hi)))
                                  go_roundg k3
                                  case measure => have := HK1.out; have := HJ12.out; have := HK3.out; omega
                                  case rel => exact ⟨(false), (wrap64 (x9_3 + 1)), (by first | rfl | (simp; done) | (simp [*]; done)), (by first | rfl | (simp; done) | (simp [*]; done)), H', ⟨by have := HK1.out; have := HJ12.out; have := HK3.out; omega⟩, ⟨by (with_reducible repeat (first | apply Kd.R_alloc | apply Kd.R_drewN | apply Kd.R_drew)); exact HO_15.out⟩, ⟨by (with_reducible repeat (first | refine blk_drewN ?_ _ | refine blk_drew ?_ | refine blk_alloc ?_ _)); exact BK261.out⟩, ⟨by repeat (first | (with_reducible first | exact HB.out | apply below_alloc | apply pw_below_drewN | apply below_drew1 | refine below_set ?_ GE261.out) | exact HB.out)⟩⟩
                                · replace c41 := Bool.eq_false_iff.mpr c41
                                  subst c41
                                  have H1 : (some false) = some r := by rw [if_neg (show ¬ (false = true) by decide)] at H; exact H
                                  clear H
                                  have H := H1
                                  clear H1
                                  obtain rfl := Option.some.inj H
                                  have hcz44_0 : wr.cell? ⟨gb261, 0, none⟩ = some (.int .i64 ((rd_T30 t257 x17_1).f0)) := (blk_cell BK261.out 0).trans rfl
                                  have hcz44_1 : wr.cell? ⟨gb261, 1, none⟩ = some (.int .i64 ((rd_T30 t257 x17_1).f1)) := (blk_cell BK261.out 1).trans rfl
                                  have hfz44_0 := blk_frozen BK261.out 0
                                  have hfz44_1 := blk_frozen BK261.out 1
                                  have p29 : 0 ≤ (x9_3 : Int) := of_decide_eq_true (by first | (with_reducible assumption) | assumption)
                                  have q29 : x9_3 < (t256.size : Int) := of_decide_eq_true (by first | (with_reducible assumption) | assumption)
                                  have hx29 := bt_at t256 x9_3
                                  replace p29 := eq_true p29
                                  replace q29 := eq_true q29
                                  go_wp2_with (first | ((with_reducible refine gate_callee (f := 20) rfl ?_); refine goesL_ (some 58) rfl rfl Try.func20 (by kernel_rfl) rfl #[.int .i64 (wrap64 (bt t256 x9_3))] rfl (by (try simp only [List.map_toArray, List.map_cons, List.map_nil]); first | done | rfl | (simp only [List.length_drop, List.length_take]; rfl)) ?_; (with_reducible refine (chars_Extends.calls k3 (wrap64 (bt t256 x9_3)) false _ A30.out).mono ?_); rintro e w45 ⟨rfl, hb⟩; refine ⟨_, rfl, ?_⟩; have n0_ := Aside0.mk (Kd.R_below (by (with_reducible repeat (first | apply Kd.R_alloc | apply Kd.R_drewN | apply Kd.R_drew)); exact HO_15.out) hb); have n1_ := Aside0.mk (blk_below (g := gb261) (o := .cells #[.int .i64 ((rd_T30 t257 x17_1).f0), .int .i64 ((rd_T30 t257 x17_1).f1)] 30 (0, 0)) (by (with_reducible repeat (first | refine blk_drewN ?_ _ | refine blk_drew ?_ | refine blk_alloc ?_ _)); exact BK261.out) hb); have n2_ := Aside0.mk (below_step (by repeat (first | (with_reducible first | exact HB.out | apply below_alloc | apply pw_below_drewN | apply below_drew1 | refine below_set ?_ GE261.out) | exact HB.out)) hb); clear HO_15; clear BK261; clear HB; have HO_15 := n0_; have BK261 := n1_; have HB := n2_; clear n0_ n1_ n2_; (try clear hb); (try clear hb2); (try clear hk); (try clear hi)))
                                  go_ret
                                  exact ⟨by first | rfl | (simp [errW_none, errW_some] <;> rfl) | (simp [*, errW_none, errW_some] <;> rfl), by repeat (first | (with_reducible first | exact HB.out | apply below_alloc | apply pw_below_drewN | apply below_drew1 | refine below_set ?_ GE261.out) | exact HB.out)⟩
                              · rw [if_neg c40] at H
                                have c40b0 : decide (x9_3 < t262) = false := decide_eq_false c40
                                clear c40
                                have H' := Aside0.mk H
                                clear H
                                have hcz46_0 : wr.cell? ⟨gb261, 0, none⟩ = some (.int .i64 ((rd_T30 t257 x17_1).f0)) := (blk_cell BK261.out 0).trans rfl
                                have hcz46_1 : wr.cell? ⟨gb261, 1, none⟩ = some (.int .i64 ((rd_T30 t257 x17_1).f1)) := (blk_cell BK261.out 1).trans rfl
                                have hfz46_0 := blk_frozen BK261.out 0
                                have hfz46_1 := blk_frozen BK261.out 1
                                have p29 : 0 ≤ (x9_3 : Int) := of_decide_eq_true (by first | (with_reducible assumption) | assumption)
                                have q29 : x9_3 < (t256.size : Int) := of_decide_eq_true (by first | (with_reducible assumption) | assumption)
                                have hx29 := bt_at t256 x9_3
                                replace p29 := eq_true p29
                                replace q29 := eq_true q29
                                go_wp2_with (first | ((with_reducible refine gate_callee (f := 20) rfl ?_); refine goesL_ (some 58) rfl rfl Try.func20 (by kernel_rfl) rfl #[.int .i64 (wrap64 (bt t256 x9_3))] rfl (by (try simp only [List.map_toArray, List.map_cons, List.map_nil]); first | done | rfl | (simp only [List.length_drop, List.length_take]; rfl)) ?_; (with_reducible refine (chars_Extends.calls k3 (wrap64 (bt t256 x9_3)) t263 _ A30.out).mono ?_); rintro e w47 ⟨rfl, hb⟩; refine ⟨_, rfl, ?_⟩; have n0_ := Aside0.mk (Kd.R_below (by (with_reducible repeat (first | apply Kd.R_alloc | apply Kd.R_drewN | apply Kd.R_drew)); exact HO_15.out) hb); have n1_ := Aside0.mk (blk_below (g := gb261) (o := .cells #[.int .i64 ((rd_T30 t257 x17_1).f0), .int .i64 ((rd_T30 t257 x17_1).f1)] 30 (0, 0)) (by (with_reducible repeat (first | refine blk_drewN ?_ _ | refine blk_drew ?_ | refine blk_alloc ?_ _)); exact BK261.out) hb); have n2_ := Aside0.mk (below_step (by repeat (first | (with_reducible first | exact HB.out | apply below_alloc | apply pw_below_drewN | apply below_drew1 | refine below_set ?_ GE261.out) | exact HB.out)) hb); clear HO_15; clear BK261; clear HB; have HO_15 := n0_; have BK261 := n1_; have HB := n2_; clear n0_ n1_ n2_; (try clear hb); (try clear hb2); (try clear hk); (try clear hi)))
                                go_roundg k3
                                case measure => have := HK1.out; have := HJ12.out; have := HK3.out; omega
                                case rel => exact ⟨(false), (wrap64 (x9_3 + 1)), (by first | rfl | (simp; done) | (simp [*]; done)), (by first | rfl | (simp; done) | (simp [*]; done)), H', ⟨by have := HK1.out; have := HJ12.out; have := HK3.out; omega⟩, ⟨by (with_reducible repeat (first | apply Kd.R_alloc | apply Kd.R_drewN | apply Kd.R_drew)); exact HO_15.out⟩, ⟨by (with_reducible repeat (first | refine blk_drewN ?_ _ | refine blk_drew ?_ | refine blk_alloc ?_ _)); exact BK261.out⟩, ⟨by repeat (first | (with_reducible first | exact HB.out | apply below_alloc | apply pw_below_drewN | apply below_drew1 | refine below_set ?_ GE261.out) | exact HB.out)⟩⟩
                          · rw [if_neg c28] at H
                            exact absurd H (by simp)
                        · rw [if_neg c27] at H
                          exact absurd H (by simp)
                      · rw [if_neg c26] at H
                        have c26b0 : decide (x9_3 < ((rd_T30 t257 x17_1).f1)) = false := decide_eq_false c26
                        clear c26
                        by_cases c48 : 0 ≤ t262
                        · rw [if_pos c48] at H
                          have c48b0 : decide (0 ≤ t262) = true := decide_eq_true c48
                          clear c48
                          by_cases c49 : t262 < (t256.size : Int)
                          · rw [if_pos c49] at H
                            have c49b0 : decide (t262 < (t256.size : Int)) = true := decide_eq_true c49
                            clear c49
                            replace H := Option.bind_eq_some_iff.mp H
                            obtain ⟨t264, A510, H⟩ := H
                            replace H : (if t264 = true then (if x8_3 = true then (if t262 = ((rd_T30 t257 x17_1).f0) then (abugidalaw06_ClusterBases.l0 k3 t255 t256 t257 (t257.length : Int) (wrap64 (x17_1 + 1))) else (some false)) else (some false)) else (abugidalaw06_ClusterBases.l0 k3 t255 t256 t257 (t257.length : Int) (wrap64 (x17_1 + 1)))) = some r := H
                            have A51 := Aside0.mk A510
                            clear A510
                            by_cases c52 : t264 = true
                            · subst c52
                              have H1 : (if x8_3 = true then (if t262 = ((rd_T30 t257 x17_1).f0) then (abugidalaw06_ClusterBases.l0 k3 t255 t256 t257 (t257.length : Int) (wrap64 (x17_1 + 1))) else (some false)) else (some false)) = some r := by rw [if_pos rfl] at H; exact H
                              clear H
                              have H := H1
                              clear H1
                              by_cases c53 : x8_3 = true
                              · subst c53
                                have H1 : (if t262 = ((rd_T30 t257 x17_1).f0) then (abugidalaw06_ClusterBases.l0 k3 t255 t256 t257 (t257.length : Int) (wrap64 (x17_1 + 1))) else (some false)) = some r := by rw [if_pos rfl] at H; exact H
                                clear H
                                have H := H1
                                clear H1
                                by_cases c54 : t262 = ((rd_T30 t257 x17_1).f0)
                                · rw [if_pos c54] at H
                                  have c54b0 : (t262 == ((rd_T30 t257 x17_1).f0)) = true := beq_iff_eq.mpr c54
                                  have c54b1 : (t262 != ((rd_T30 t257 x17_1).f0)) = false := bne_eq_false_iff_eq.mpr c54
                                  clear c54
                                  have H' := Aside0.mk H
                                  clear H
                                  have hcz55_0 : wr.cell? ⟨gb261, 0, none⟩ = some (.int .i64 ((rd_T30 t257 x17_1).f0)) := (blk_cell BK261.out 0).trans rfl
                                  have hcz55_1 : wr.cell? ⟨gb261, 1, none⟩ = some (.int .i64 ((rd_T30 t257 x17_1).f1)) := (blk_cell BK261.out 1).trans rfl
                                  have hfz55_0 := blk_frozen BK261.out 0
                                  have hfz55_1 := blk_frozen BK261.out 1
                                  have p50 : 0 ≤ (t262 : Int) := of_decide_eq_true (by first | (with_reducible assumption) | assumption)
                                  have q50 : t262 < (t256.size : Int) := of_decide_eq_true (by first | (with_reducible assumption) | assumption)
                                  have hx50 := bt_at t256 t262
                                  replace p50 := eq_true p50
                                  replace q50 := eq_true q50
                                  go_wp2_with (first | ((with_reducible refine gate_callee (f := 20) rfl ?_); refine goesL_ (some 74) rfl rfl Try.func20 (by kernel_rfl) rfl #[.int .i64 (wrap64 (bt t256 t262))] rfl (by (try simp only [List.map_toArray, List.map_cons, List.map_nil]); first | done | rfl | (simp only [List.length_drop, List.length_take]; rfl)) ?_; (with_reducible refine (chars_Extends.calls k3 (wrap64 (bt t256 t262)) true _ A51.out).mono ?_); rintro e w56 ⟨rfl, hb⟩; refine ⟨_, rfl, ?_⟩; have n0_ := Aside0.mk (Kd.R_below (by (with_reducible repeat (first | apply Kd.R_alloc | apply Kd.R_drewN | apply Kd.R_drew)); exact HO_15.out) hb); have n1_ := Aside0.mk (blk_below (g := gb261) (o := .cells #[.int .i64 ((rd_T30 t257 x17_1).f0), .int .i64 ((rd_T30 t257 x17_1).f1)] 30 (0, 0)) (by (with_reducible repeat (first | refine blk_drewN ?_ _ | refine blk_drew ?_ | refine blk_alloc ?_ _)); exact BK261.out) hb); have n2_ := Aside0.mk (below_step (by repeat (first | (with_reducible first | exact HB.out | apply below_alloc | apply pw_below_drewN | apply below_drew1 | refine below_set ?_ GE261.out) | exact HB.out)) hb); clear HO_15; clear BK261; clear HB; have HO_15 := n0_; have BK261 := n1_; have HB := n2_; clear n0_ n1_ n2_; (try clear hb); (try clear hb2); (try clear hk); (try clear hi); have hcz57_0 : w56.cell? ⟨gb261, 0, none⟩ = some (.int .i64 ((rd_T30 t257 x17_1).f0)) := (blk_cell BK261.out 0).trans rfl; have hcz57_1 : w56.cell? ⟨gb261, 1, none⟩ = some (.int .i64 ((rd_T30 t257 x17_1).f1)) := (blk_cell BK261.out 1).trans rfl; have hfz57_0 := blk_frozen BK261.out 0; have hfz57_1 := blk_frozen BK261.out 1))
                                  go_roundg k3
                                  case measure => have := HK1.out; have := HJ12.out; have := HK3.out; omega
                                  case rel => exact ⟨(wrap64 (x17_1 + 1)), (by first | rfl | (simp; done) | (simp [*]; done)), H', ⟨by have := HK1.out; have := HJ12.out; have := HK3.out; omega⟩, ⟨by (with_reducible repeat (first | apply Kd.R_alloc | apply Kd.R_drewN | apply Kd.R_drew)); exact Kd.R_mono HO_15.out (fun _ hk => trivial)⟩, ⟨by repeat (first | (with_reducible first | exact HB.out | apply below_alloc | apply pw_below_drewN | apply below_drew1 | refine below_set ?_ GE261.out) | exact HB.out)⟩⟩
                                · rw [if_neg c54] at H
                                  have c54b0 : (t262 == ((rd_T30 t257 x17_1).f0)) = false := beq_eq_false_iff_ne.mpr c54
                                  have c54b1 : (t262 != ((rd_T30 t257 x17_1).f0)) = true := bne_iff_ne.mpr c54
                                  obtain rfl := Option.some.inj H
                                  have hcz58_0 : wr.cell? ⟨gb261, 0, none⟩ = some (.int .i64 ((rd_T30 t257 x17_1).f0)) := (blk_cell BK261.out 0).trans rfl
                                  have hcz58_1 : wr.cell? ⟨gb261, 1, none⟩ = some (.int .i64 ((rd_T30 t257 x17_1).f1)) := (blk_cell BK261.out 1).trans rfl
                                  have hfz58_0 := blk_frozen BK261.out 0
                                  have hfz58_1 := blk_frozen BK261.out 1
                                  have p50 : 0 ≤ (t262 : Int) := of_decide_eq_true (by first | (with_reducible assumption) | assumption)
                                  have q50 : t262 < (t256.size : Int) := of_decide_eq_true (by first | (with_reducible assumption) | assumption)
                                  have hx50 := bt_at t256 t262
                                  replace p50 := eq_true p50
                                  replace q50 := eq_true q50
                                  go_wp2_with (first | ((with_reducible refine gate_callee (f := 20) rfl ?_); refine goesL_ (some 74) rfl rfl Try.func20 (by kernel_rfl) rfl #[.int .i64 (wrap64 (bt t256 t262))] rfl (by (try simp only [List.map_toArray, List.map_cons, List.map_nil]); first | done | rfl | (simp only [List.length_drop, List.length_take]; rfl)) ?_; (with_reducible refine (chars_Extends.calls k3 (wrap64 (bt t256 t262)) true _ A51.out).mono ?_); rintro e w59 ⟨rfl, hb⟩; refine ⟨_, rfl, ?_⟩; have n0_ := Aside0.mk (Kd.R_below (by (with_reducible repeat (first | apply Kd.R_alloc | apply Kd.R_drewN | apply Kd.R_drew)); exact HO_15.out) hb); have n1_ := Aside0.mk (blk_below (g := gb261) (o := .cells #[.int .i64 ((rd_T30 t257 x17_1).f0), .int .i64 ((rd_T30 t257 x17_1).f1)] 30 (0, 0)) (by (with_reducible repeat (first | refine blk_drewN ?_ _ | refine blk_drew ?_ | refine blk_alloc ?_ _)); exact BK261.out) hb); have n2_ := Aside0.mk (below_step (by repeat (first | (with_reducible first | exact HB.out | apply below_alloc | apply pw_below_drewN | apply below_drew1 | refine below_set ?_ GE261.out) | exact HB.out)) hb); clear HO_15; clear BK261; clear HB; have HO_15 := n0_; have BK261 := n1_; have HB := n2_; clear n0_ n1_ n2_; (try clear hb); (try clear hb2); (try clear hk); (try clear hi); have hcz60_0 : w59.cell? ⟨gb261, 0, none⟩ = some (.int .i64 ((rd_T30 t257 x17_1).f0)) := (blk_cell BK261.out 0).trans rfl; have hcz60_1 : w59.cell? ⟨gb261, 1, none⟩ = some (.int .i64 ((rd_T30 t257 x17_1).f1)) := (blk_cell BK261.out 1).trans rfl; have hfz60_0 := blk_frozen BK261.out 0; have hfz60_1 := blk_frozen BK261.out 1))
                                  go_ret
                                  exact ⟨by first | rfl | (simp [errW_none, errW_some] <;> rfl) | (simp [*, errW_none, errW_some] <;> rfl), by repeat (first | (with_reducible first | exact HB.out | apply below_alloc | apply pw_below_drewN | apply below_drew1 | refine below_set ?_ GE261.out) | exact HB.out)⟩
                              · replace c53 := Bool.eq_false_iff.mpr c53
                                subst c53
                                have H1 : (some false) = some r := by rw [if_neg (show ¬ (false = true) by decide)] at H; exact H
                                clear H
                                have H := H1
                                clear H1
                                obtain rfl := Option.some.inj H
                                have hcz61_0 : wr.cell? ⟨gb261, 0, none⟩ = some (.int .i64 ((rd_T30 t257 x17_1).f0)) := (blk_cell BK261.out 0).trans rfl
                                have hcz61_1 : wr.cell? ⟨gb261, 1, none⟩ = some (.int .i64 ((rd_T30 t257 x17_1).f1)) := (blk_cell BK261.out 1).trans rfl
                                have hfz61_0 := blk_frozen BK261.out 0
                                have hfz61_1 := blk_frozen BK261.out 1
                                have p50 : 0 ≤ (t262 : Int) := of_decide_eq_true (by first | (with_reducible assumption) | assumption)
                                have q50 : t262 < (t256.size : Int) := of_decide_eq_true (by first | (with_reducible assumption) | assumption)
                                have hx50 := bt_at t256 t262
                                replace p50 := eq_true p50
                                replace q50 := eq_true q50
                                go_wp2_with (first | ((with_reducible refine gate_callee (f := 20) rfl ?_); refine goesL_ (some 74) rfl rfl Try.func20 (by kernel_rfl) rfl #[.int .i64 (wrap64 (bt t256 t262))] rfl (by (try simp only [List.map_toArray, List.map_cons, List.map_nil]); first | done | rfl | (simp only [List.length_drop, List.length_take]; rfl)) ?_; (with_reducible refine (chars_Extends.calls k3 (wrap64 (bt t256 t262)) true _ A51.out).mono ?_); rintro e w62 ⟨rfl, hb⟩; refine ⟨_, rfl, ?_⟩; have n0_ := Aside0.mk (Kd.R_below (by (with_reducible repeat (first | apply Kd.R_alloc | apply Kd.R_drewN | apply Kd.R_drew)); exact HO_15.out) hb); have n1_ := Aside0.mk (blk_below (g := gb261) (o := .cells #[.int .i64 ((rd_T30 t257 x17_1).f0), .int .i64 ((rd_T30 t257 x17_1).f1)] 30 (0, 0)) (by (with_reducible repeat (first | refine blk_drewN ?_ _ | refine blk_drew ?_ | refine blk_alloc ?_ _)); exact BK261.out) hb); have n2_ := Aside0.mk (below_step (by repeat (first | (with_reducible first | exact HB.out | apply below_alloc | apply pw_below_drewN | apply below_drew1 | refine below_set ?_ GE261.out) | exact HB.out)) hb); clear HO_15; clear BK261; clear HB; have HO_15 := n0_; have BK261 := n1_; have HB := n2_; clear n0_ n1_ n2_; (try clear hb); (try clear hb2); (try clear hk); (try clear hi)))
                                go_ret
                                exact ⟨by first | rfl | (simp [errW_none, errW_some] <;> rfl) | (simp [*, errW_none, errW_some] <;> rfl), by repeat (first | (with_reducible first | exact HB.out | apply below_alloc | apply pw_below_drewN | apply below_drew1 | refine below_set ?_ GE261.out) | exact HB.out)⟩
                            · replace c52 := Bool.eq_false_iff.mpr c52
                              subst c52
                              have H1 : (abugidalaw06_ClusterBases.l0 k3 t255 t256 t257 (t257.length : Int) (wrap64 (x17_1 + 1))) = some r := by rw [if_neg (show ¬ (false = true) by decide)] at H; exact H
                              clear H
                              have H := H1
                              clear H1
                              have H' := Aside0.mk H
                              clear H
                              have hcz63_0 : wr.cell? ⟨gb261, 0, none⟩ = some (.int .i64 ((rd_T30 t257 x17_1).f0)) := (blk_cell BK261.out 0).trans rfl
                              have hcz63_1 : wr.cell? ⟨gb261, 1, none⟩ = some (.int .i64 ((rd_T30 t257 x17_1).f1)) := (blk_cell BK261.out 1).trans rfl
                              have hfz63_0 := blk_frozen BK261.out 0
                              have hfz63_1 := blk_frozen BK261.out 1
                              have p50 : 0 ≤ (t262 : Int) := of_decide_eq_true (by first | (with_reducible assumption) | assumption)
                              have q50 : t262 < (t256.size : Int) := of_decide_eq_true (by first | (with_reducible assumption) | assumption)
                              have hx50 := bt_at t256 t262
                              replace p50 := eq_true p50
                              replace q50 := eq_true q50
                              go_wp2_with (first | ((with_reducible refine gate_callee (f := 20) rfl ?_); refine goesL_ (some 74) rfl rfl Try.func20 (by kernel_rfl) rfl #[.int .i64 (wrap64 (bt t256 t262))] rfl (by (try simp only [List.map_toArray, List.map_cons, List.map_nil]); first | done | rfl | (simp only [List.length_drop, List.length_take]; rfl)) ?_; (with_reducible refine (chars_Extends.calls k3 (wrap64 (bt t256 t262)) false _ A51.out).mono ?_); rintro e w64 ⟨rfl, hb⟩; refine ⟨_, rfl, ?_⟩; have n0_ := Aside0.mk (Kd.R_below (by (with_reducible repeat (first | apply Kd.R_alloc | apply Kd.R_drewN | apply Kd.R_drew)); exact HO_15.out) hb); have n1_ := Aside0.mk (blk_below (g := gb261) (o := .cells #[.int .i64 ((rd_T30 t257 x17_1).f0), .int .i64 ((rd_T30 t257 x17_1).f1)] 30 (0, 0)) (by (with_reducible repeat (first | refine blk_drewN ?_ _ | refine blk_drew ?_ | refine blk_alloc ?_ _)); exact BK261.out) hb); have n2_ := Aside0.mk (below_step (by repeat (first | (with_reducible first | exact HB.out | apply below_alloc | apply pw_below_drewN | apply below_drew1 | refine below_set ?_ GE261.out) | exact HB.out)) hb); clear HO_15; clear BK261; clear HB; have HO_15 := n0_; have BK261 := n1_; have HB := n2_; clear n0_ n1_ n2_; (try clear hb); (try clear hb2); (try clear hk); (try clear hi)))
                              go_roundg k3
                              case measure => have := HK1.out; have := HJ12.out; have := HK3.out; omega
                              case rel => exact ⟨(wrap64 (x17_1 + 1)), (by first | rfl | (simp; done) | (simp [*]; done)), H', ⟨by have := HK1.out; have := HJ12.out; have := HK3.out; omega⟩, ⟨by (with_reducible repeat (first | apply Kd.R_alloc | apply Kd.R_drewN | apply Kd.R_drew)); exact Kd.R_mono HO_15.out (fun _ hk => trivial)⟩, ⟨by repeat (first | (with_reducible first | exact HB.out | apply below_alloc | apply pw_below_drewN | apply below_drew1 | refine below_set ?_ GE261.out) | exact HB.out)⟩⟩
                          · rw [if_neg c49] at H
                            exact absurd H (by simp)
                        · rw [if_neg c48] at H
                          exact absurd H (by simp)
          · rw [if_neg c11] at H
            exact absurd H (by simp)
        · rw [if_neg c10] at H
          exact absurd H (by simp)
      · rw [if_neg c9] at H
        have c9b0 : decide (x17_1 < (t257.length : Int)) = false := decide_eq_false c9
        clear c9
        obtain rfl := Option.some.inj H
        go_wp2
        go_ret
        exact ⟨by first | rfl | (simp [errW_none, errW_some] <;> rfl) | (simp [*, errW_none, errW_some] <;> rfl), by repeat (first | (with_reducible first | exact HB.out | apply below_alloc | apply pw_below_drewN | apply below_drew1) | exact HB.out)⟩

/-- THE ONE PURE STATEMENT of abugidalaw06_ClusterBases: yours. -/
def abugidalaw06_ClusterBases.Pure : Prop := ∀ (l0 : List Int), l0.length ≤ maxLen → l0.length * 8 ≤ 140737488351232 → (∀ x ∈ l0, (Lit.int .i64 x).wf = true) → ∃ k, abugidalaw06_ClusterBases.f k l0 = some true
theorem abugidalaw06_ClusterBases.walk (P : abugidalaw06_ClusterBases.Pure) (a0 : Option Addr) (len0 cap0 : Nat) (z0 : List Int) (w : World) (w0 : (a0 = none ∧ len0 = 0 ∧ cap0 = 0 ∧ z0 = []) ∨ ∃ x, a0 = some x ∧ len0 ≤ cap0 ∧ cap0 ≤ maxLen ∧ z0.length = cap0 ∧ (∀ i, i < z0.length → w.cell? (x.add i) = some (.int .i64 (z0.getD i 0))) ∧ ∀ n ∈ z0, (Lit.int .i64 n).wf = true) (y0 : len0 * 8 ≤ 140737488351232) :
    Calls Try.prog 7 #[.slice a0 len0 cap0] w fun e w' => e = .returned (.bool true) ∧ Below w.heap.size w w' := by
  obtain ⟨l0, rfl, hr0, hm0, hw0, hc0⟩ := ReadsInt.ofRowC w0
  obtain ⟨k, h⟩ := P l0 hm0 y0 hw0
  refine (abugidalaw06_ClusterBases.calls k _ _ l0 true w (Kd.C_of_reads (d := (0 : Int)) (h1 := fun _ => rfl) hr0) hc0 h).mono ?_
  rintro e w' ⟨rfl, hd⟩
  exact ⟨rfl, hd⟩

end Go.Proofs.Ytngdddgoplmlbaa.Q

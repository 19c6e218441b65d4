-- Written by wip/tools/myprint.py, a program of this session that drives the kit's print.py; not a text of print.sh.
import Derived.Test.YtngdddgoplmlbaaQx0
import Derived.Test.YtngdddgoplmlbaaQx3
import Derived.Test.YtngdddgoplmlbaaQx6
import Derived.Test.YtngdddgoplmlbaaQx7
namespace Go.Proofs.Ytngdddgoplmlbaa.Q
open Go.RowKit Go.Proofs.YtngdddgoplmlbaaW.PrintWords Go.Proofs.YtngdddgoplmlbaaW.PrintLast Go.Proofs.YtngdddgoplmlbaaW.PrintMore
attribute [local go_sem] max2_int min2_int max_two min_two max_three min_three max_four min_four   -- for this text's walks alone
set_option linter.unusedVariables false
set_option linter.unusedSimpArgs false

/-! ### abugidalaw06_ClusterLines: function 8 -/
def abugidalaw06_ClusterLines.l0 : Nat → Bool → ByteArray → ByteArray → List (S30) → List (S30) → Int → Int → Option (Bool)
  | 0, _, _, _, _, _, _, _ => none
  | k + 1, x5, x6, x7, x8, x20, x21, x22 => if x22 < x21 then (if 0 ≤ x22 then (if x22 < (x20.length : Int) then (if x8.length < 8796093022208 then (abugidalaw06_ClusterLines.l0 k x5 x6 x7 (x8 ++ [(⟨wrap64 (((rd_T30 x20 x22).f0) + (x6.size : Int)), wrap64 (((rd_T30 x20 x22).f1) + (x6.size : Int))⟩ : S30)]) x20 x21 (wrap64 (x22 + 1))) else (none)) else (none)) else (none)) else (if x5 = true then (if x6.size + x7.size ≤ 9223372036854775807 then ((cluster_Split.f (x6 ++ x7)).bind fun t279 => ((abugidaref06_Same.f k t279 x8).bind fun t282 => (some t282))) else (none)) else (some false))
def abugidalaw06_ClusterLines.f (k : Nat) (l0 : List Int) (l1 : List Int) : Option (Bool) := (abugidalaw06_sanity.f k).bind fun t265 => ((abugidaref06_Made.f k l0 30).bind fun t266 => (if t266.size + 1 ≤ 9223372036854775807 then ((abugidaref06_Made.f k l1 30).bind fun t267 => ((cluster_Split.f (t266 ++ (⟨#[10]⟩ : ByteArray))).bind fun t268 => ((cluster_Split.f t267).bind fun t271 => (abugidalaw06_ClusterLines.l0 k t265 (t266 ++ (⟨#[10]⟩ : ByteArray)) t267 t268 t271 (t271.length : Int) 0)))) else (none)))
theorem abugidalaw06_ClusterLines.mono_l : ∀ k, (∀ y0 y1 y2 y3 y4 y5 y6, LeO (abugidalaw06_ClusterLines.l0 k y0 y1 y2 y3 y4 y5 y6) (abugidalaw06_ClusterLines.l0 (k + 1) y0 y1 y2 y3 y4 y5 y6))
  | 0 => fun _ _ _ _ _ _ _ r h => by simp [abugidalaw06_ClusterLines.l0] at h
  | k + 1 => by
    have ih0 := abugidalaw06_ClusterLines.mono_l k
    · intro y0 y1 y2 y3 y4 y5 y6
      unfold abugidalaw06_ClusterLines.l0
      repeat' first
      | (with_reducible exact ih0 _ _ _ _ _ _ _)
      | (with_reducible exact abugidalaw06_sanity.mono _)
      | (with_reducible exact abugidaref06_Made.mono _ _ _)
      | (with_reducible exact abugidaref06_Same.mono _ _ _)
      | (with_reducible exact LeO.refl _)
      | (with_reducible exact LeO.none _)
      | (with_reducible refine LeO.ite ?_ ?_)
      | (with_reducible refine LeO.bind ?_ (fun _ => ?_))
      | exact ih0 _ _ _ _ _ _ _
      | exact abugidalaw06_sanity.mono _
      | exact abugidaref06_Made.mono _ _ _
      | exact abugidaref06_Same.mono _ _ _
      | exact LeO.none _
      | refine LeO.ite ?_ ?_
      | refine LeO.bind ?_ (fun _ => ?_)
theorem abugidalaw06_ClusterLines.mono : ∀ a0 a1 k, LeO (abugidalaw06_ClusterLines.f k a0 a1) (abugidalaw06_ClusterLines.f (k + 1) a0 a1) := by
  intro a0 a1 k
  have ih0 := abugidalaw06_ClusterLines.mono_l k
  unfold abugidalaw06_ClusterLines.f
  repeat' first
      | (with_reducible exact ih0 _ _ _ _ _ _ _)
      | (with_reducible exact abugidalaw06_sanity.mono _)
      | (with_reducible exact abugidaref06_Made.mono _ _ _)
      | (with_reducible exact abugidaref06_Same.mono _ _ _)
      | (with_reducible exact LeO.refl _)
      | (with_reducible exact LeO.none _)
      | (with_reducible refine LeO.ite ?_ ?_)
      | (with_reducible refine LeO.bind ?_ (fun _ => ?_))
      | exact ih0 _ _ _ _ _ _ _
      | exact abugidalaw06_sanity.mono _
      | exact abugidaref06_Made.mono _ _ _
      | exact abugidaref06_Same.mono _ _ _
      | exact LeO.none _
      | refine LeO.ite ?_ ?_
      | refine LeO.bind ?_ (fun _ => ?_)
set_option maxHeartbeats 8000000 in
set_option maxRecDepth 100000 in
theorem abugidalaw06_ClusterLines.calls (k : Nat) (A0 : Option Addr) (c0 : Nat) (l0 : List Int) (A1 : Option Addr) (c1 : Nat) (l1 : List Int) (r : Bool) (w : World) (hr0 : Kd.C (Kd.int .i64) w A0 l0.length l0) (hc0 : l0.length ≤ c0) (hr1 : Kd.C (Kd.int .i64) w A1 l1.length l1) (hc1 : l1.length ≤ c1) (h : abugidalaw06_ClusterLines.f k l0 l1 = some r) :
    Calls Try.prog 8 #[.slice A0 l0.length c0, .slice A1 l1.length c1] w fun e w' => e = .returned (.bool r) ∧ Below w.heap.size w w' := by
  have hu30 := Try.underlying30
  have HR0 := Aside0.mk hr0
  have HC0 := Aside0.mk hc0
  clear hr0 hc0
  have HR1 := Aside0.mk hr1
  have HC1 := Aside0.mk hc1
  clear hr1 hc1
  have HB := Aside0.mk (Below.refl w.heap.size w)
  have H : ((abugidalaw06_sanity.f k).bind fun t265 => ((abugidaref06_Made.f k l0 30).bind fun t266 => (if t266.size + 1 ≤ 9223372036854775807 then ((abugidaref06_Made.f k l1 30).bind fun t267 => ((cluster_Split.f (t266 ++ (⟨#[10]⟩ : ByteArray))).bind fun t268 => ((cluster_Split.f t267).bind fun t271 => (abugidalaw06_ClusterLines.l0 k t265 (t266 ++ (⟨#[10]⟩ : ByteArray)) t267 t268 t271 (t271.length : Int) 0)))) else (none)))) = some r := h
  clear h
  replace H := Option.bind_eq_some_iff.mp H
  obtain ⟨t265, A30, H⟩ := H
  replace H : ((abugidaref06_Made.f k l0 30).bind fun t266 => (if t266.size + 1 ≤ 9223372036854775807 then ((abugidaref06_Made.f k l1 30).bind fun t267 => ((cluster_Split.f (t266 ++ (⟨#[10]⟩ : ByteArray))).bind fun t268 => ((cluster_Split.f t267).bind fun t271 => (abugidalaw06_ClusterLines.l0 k t265 (t266 ++ (⟨#[10]⟩ : ByteArray)) t267 t268 t271 (t271.length : Int) 0)))) else (none))) = some r := H
  have A3 := Aside0.mk A30
  clear A30
  replace H := Option.bind_eq_some_iff.mp H
  obtain ⟨t266, A40, H⟩ := H
  replace H : (if t266.size + 1 ≤ 9223372036854775807 then ((abugidaref06_Made.f k l1 30).bind fun t267 => ((cluster_Split.f (t266 ++ (⟨#[10]⟩ : ByteArray))).bind fun t268 => ((cluster_Split.f t267).bind fun t271 => (abugidalaw06_ClusterLines.l0 k t265 (t266 ++ (⟨#[10]⟩ : ByteArray)) t267 t268 t271 (t271.length : Int) 0)))) else (none)) = some r := H
  have A4 := Aside0.mk A40
  clear A40
  by_cases c5 : t266.size + 1 ≤ 9223372036854775807
  · rw [if_pos c5] at H
    have c5b0 := eq_true c5
    have c5b1 : decide (t266.size + 1 ≤ 9223372036854775807) = true := decide_eq_true c5
    try have c5b2 : (9223372036854775807 < t266.size + 1) = False := eq_false (Nat.not_lt.2 c5)
    replace H := Option.bind_eq_some_iff.mp H
    obtain ⟨t267, A60, H⟩ := H
    replace H : ((cluster_Split.f (t266 ++ (⟨#[10]⟩ : ByteArray))).bind fun t268 => ((cluster_Split.f t267).bind fun t271 => (abugidalaw06_ClusterLines.l0 k t265 (t266 ++ (⟨#[10]⟩ : ByteArray)) t267 t268 t271 (t271.length : Int) 0))) = some r := H
    have A6 := Aside0.mk A60
    clear A60
    replace H := Option.bind_eq_some_iff.mp H
    obtain ⟨t268, A70, H⟩ := H
    replace H : ((cluster_Split.f t267).bind fun t271 => (abugidalaw06_ClusterLines.l0 k t265 (t266 ++ (⟨#[10]⟩ : ByteArray)) t267 t268 t271 (t271.length : Int) 0)) = some r := H
    have A7 := Aside0.mk A70
    clear A70
    replace H := Option.bind_eq_some_iff.mp H
    obtain ⟨t271, A80, H⟩ := H
    replace H : (abugidalaw06_ClusterLines.l0 k t265 (t266 ++ (⟨#[10]⟩ : ByteArray)) t267 t268 t271 (t271.length : Int) 0) = some r := H
    have A8 := Aside0.mk A80
    clear A80
    have H' := Aside0.mk H
    clear H
    go_enter Try.func8, Try.ntmps8
    go_wp2_with (first | ((with_reducible refine gate_callee (f := 10) rfl ?_); refine goesL_ (some 11) rfl rfl Try.func10 (by kernel_rfl) rfl #[] rfl (by (try simp only [List.map_toArray, List.map_cons, List.map_nil]); first | done | rfl | (simp only [List.length_drop, List.length_take]; rfl)) ?_; (with_reducible refine (abugidalaw06_sanity.calls k  t265 _ A3.out).mono ?_); rintro e w9 ⟨rfl, hb⟩; refine ⟨_, rfl, ?_⟩; have n0_ := Aside0.mk (below_step (by repeat (first | (with_reducible first | exact HB.out | apply below_alloc | apply pw_below_drewN | apply below_drew1) | exact HB.out)) hb); clear HB; have HB := n0_; clear n0_; (try clear hb); (try clear hb2); (try clear hk); (try clear hi)) | ((with_reducible refine gate_callee (f := 11) rfl ?_); refine goesL_ (some 13) rfl rfl Try.func11 (by kernel_rfl) rfl #[.slice A0 l0.length c0, .int .i64 30] rfl (by (try simp only [List.map_toArray, List.map_cons, List.map_nil]); first | done | rfl | (simp only [List.length_drop, List.length_take]; rfl)) ?_; (with_reducible refine (abugidaref06_Made.calls k _ _ l0 30 t266 _ ?side1 ?side2 A4.out).mono ?_); (case side1 => repeat (first | exact (Kd.C_below HR0.out HB.out) | (with_reducible refine Kd.C_alloc ?_ _) | (with_reducible refine Kd.C_drewN ?_ _) | (with_reducible refine Kd.C_drew ?_))); (case side2 => exact HC0.out); rintro e w10 ⟨rfl, hb⟩; refine ⟨_, rfl, ?_⟩; have n0_ := Aside0.mk (below_step (by repeat (first | (with_reducible first | exact HB.out | apply below_alloc | apply pw_below_drewN | apply below_drew1) | exact HB.out)) hb); clear HB; have HB := n0_; clear n0_; (try clear hb); (try clear hb2); (try clear hk); (try clear hi)) | ((with_reducible refine gate_callee (f := 11) rfl ?_); refine goesL_ (some 16) rfl rfl Try.func11 (by kernel_rfl) rfl #[.slice A1 l1.length c1, .int .i64 30] rfl (by (try simp only [List.map_toArray, List.map_cons, List.map_nil]); first | done | rfl | (simp only [List.length_drop, List.length_take]; rfl)) ?_; (with_reducible refine (abugidaref06_Made.calls k _ _ l1 30 t267 _ ?side1 ?side2 A6.out).mono ?_); (case side1 => repeat (first | exact (Kd.C_below HR1.out HB.out) | (with_reducible refine Kd.C_alloc ?_ _) | (with_reducible refine Kd.C_drewN ?_ _) | (with_reducible refine Kd.C_drew ?_))); (case side2 => exact HC1.out); rintro e w11 ⟨rfl, hb⟩; refine ⟨_, rfl, ?_⟩; have n0_ := Aside0.mk (below_step (by repeat (first | (with_reducible first | exact HB.out | apply below_alloc | apply pw_below_drewN | apply below_drew1) | exact HB.out)) hb); clear HB; have HB := n0_; clear n0_; (try clear hb); (try clear hb2); (try clear hk); (try clear hi)) | ((with_reducible refine gate_callee (f := 13) rfl ?_); refine goesL_ (some 18) rfl rfl Try.func13 (by kernel_rfl) rfl #[.string (t266 ++ (⟨#[10]⟩ : ByteArray))] rfl (by (try simp only [List.map_toArray, List.map_cons, List.map_nil]); first | done | rfl | (simp only [List.length_drop, List.length_take]; rfl)) ?_; (with_reducible refine (cluster_Split.calls (t266 ++ (⟨#[10]⟩ : ByteArray)) t268 _ A7.out).mono ?_); rintro e w12 ⟨v269, rfl, ho0, hb⟩; refine ⟨_, rfl, ?_⟩; have n0_ := Aside0.mk (Kd.R_lower ho0 (below_size (by repeat (first | (with_reducible first | exact HB.out | apply below_alloc | apply pw_below_drewN | apply below_drew1) | exact HB.out)))); have n1_ := Aside0.mk (below_step (by repeat (first | (with_reducible first | exact HB.out | apply below_alloc | apply pw_below_drewN | apply below_drew1) | exact HB.out)) hb); clear HB; have HO270 := n0_; have HB := n1_; clear n0_ n1_; (try clear hb); (try clear hb2); (try clear hk); (try clear hi); (try clear ho0)) | ((with_reducible refine gate_callee (f := 13) rfl ?_); refine goesL_ (some 20) rfl rfl Try.func13 (by kernel_rfl) rfl #[.string t267] rfl (by (try simp only [List.map_toArray, List.map_cons, List.map_nil]); first | done | rfl | (simp only [List.length_drop, List.length_take]; rfl)) ?_; (with_reducible refine (cluster_Split.calls t267 t271 _ A8.out).mono ?_); rintro e w13 ⟨v272, rfl, ho0, hb⟩; refine ⟨_, rfl, ?_⟩; have n0_ := Aside0.mk (Kd.R_elder' (by (with_reducible repeat (first | apply Kd.R_alloc | apply Kd.R_drewN | apply Kd.R_drew)); exact HO270.out) (Kd.R_base ho0) hb); have n1_ := Aside0.mk (Kd.R_lower (Kd.R_new' ho0 (Kd.R_lt (by (with_reducible repeat (first | apply Kd.R_alloc | apply Kd.R_drewN | apply Kd.R_drew)); exact HO270.out))) (below_size (by repeat (first | (with_reducible first | exact HB.out | apply below_alloc | apply pw_below_drewN | apply below_drew1) | exact HB.out)))); have n2_ := Aside0.mk (below_step (by repeat (first | (with_reducible first | exact HB.out | apply below_alloc | apply pw_below_drewN | apply below_drew1) | exact HB.out)) hb); clear HO270; clear HB; have HO270 := n0_; have HO273 := n1_; have HB := n2_; clear n0_ n1_ n2_; (try clear hb); (try clear hb2); (try clear hk); (try clear hi); (try clear ho0); obtain ⟨Ao14, co14, eo14⟩ := Kd.R_slice HO273.out; subst eo14))
    go_loopg [8, 22] k (fun kq v8 v22 w' => ∃ (x8_1 : List (S30)) (x22_1 : Int), v22 = .int .i64 x22_1 ∧ Aside0 (abugidalaw06_ClusterLines.l0 kq t265 (t266 ++ (⟨#[10]⟩ : ByteArray)) t267 x8_1 t271 (t271.length : Int) x22_1 = some r) ∧ Aside0 (kq ≤ k) ∧ Aside0 (Kd.R k30 30 w' w.heap.size (fun k_ => some k_ ≠ ((.slice Ao14 t271.length co14) : Value).ownBlock) v8 x8_1) ∧ Aside0 (Kd.R k30 30 w' w.heap.size (fun k_ => some k_ ≠ (v8 : Value).ownBlock) (.slice Ao14 t271.length co14) t271) ∧ Aside0 (Below w.heap.size w w'))
    case atStart => exact ⟨(t268), (0), (by first | rfl | (simp; done) | (simp [*]; done)), H', ⟨Nat.le_refl _⟩, ⟨by (with_reducible repeat (first | apply Kd.R_alloc | apply Kd.R_drewN | apply Kd.R_drew)); exact Kd.R_mono HO270.out (fun _ hk => hk.2)⟩, ⟨by (with_reducible repeat (first | apply Kd.R_alloc | apply Kd.R_drewN | apply Kd.R_drew)); exact Kd.R_mono HO273.out (fun _ hk => hk.2)⟩, ⟨by repeat (first | (with_reducible first | exact HB.out | apply below_alloc | apply pw_below_drewN | apply below_drew1) | exact HB.out)⟩⟩
    case round =>
      clear H'
      try clear c1
      try clear p2
      try clear c5
      try clear c5b0
      try clear c5b1
      try clear c5b2
      try clear c8
      try clear c10
      try clear c11
      try clear c13
      obtain ⟨x8_1, x22_1, rfl, HA, HK1, HO_8, HO_20, HB⟩ := hrel
      cases gk with
      | zero => exact absurd HA.out (by simp [abugidalaw06_ClusterLines.l0])
      | succ k1 =>
        have H := HA.out
        clear HA
        simp only [abugidalaw06_ClusterLines.l0] at H
        have hsz : ((t266 ++ (⟨#[10]⟩ : ByteArray)).size : Int) = (t266.size : Int) + 1 := by
          rw [ByteArray.size_append]
          rfl
        simp only [hsz] at H
        clear hsz
        by_cases c15 : x22_1 < (t271.length : Int)
        · rw [if_pos c15] at H
          have c15b0 : decide (x22_1 < (t271.length : Int)) = true := decide_eq_true c15
          clear c15
          by_cases c16 : 0 ≤ x22_1
          · rw [if_pos c16] at H
            have c16b0 : decide (0 ≤ x22_1) = true := decide_eq_true c16
            clear c16
            by_cases c17 : x22_1 < (t271.length : Int)
            · rw [if_pos c17] at H
              have c17b0 : decide (x22_1 < (t271.length : Int)) = true := decide_eq_true c17
              clear c17
              by_cases c18 : x8_1.length < 8796093022208
              · rw [if_pos c18] at H
                have LMc18 := Aside0.mk c18
                clear c18
                obtain ⟨y276, hy276⟩ : ∃ y_ : List (S30), y_ = (x8_1 ++ [(⟨wrap64 (((rd_T30 t271 x22_1).f0) + ((t266.size : Int) + 1)), wrap64 (((rd_T30 t271 x22_1).f1) + ((t266.size : Int) + 1))⟩ : S30)]) := ⟨_, rfl⟩
                replace H : (abugidalaw06_ClusterLines.l0 k1 t265 (t266 ++ (⟨#[10]⟩ : ByteArray)) t267 y276 t271 (t271.length : Int) (wrap64 (x22_1 + 1))) = some r := by first | (rw [hy276]; with_reducible exact H) | (have H2_ := (Option.bind_some _ _).symm.trans H; rw [hy276]; with_reducible exact H2_) | (have H2_ := (Option.bind_some _ _).symm.trans H; with_reducible exact H2_) | with_reducible exact H | (rw [hy276]; exact H) | exact H
                have Ny276 := Aside0.mk hy276
                clear hy276
                have H' := Aside0.mk H
                clear H
                have p274 : 0 ≤ (x22_1 : Int) := of_decide_eq_true (by first | (with_reducible assumption) | assumption)
                have q274 : x22_1 < (t271.length : Int) := of_decide_eq_true (by first | (with_reducible assumption) | assumption)
                obtain ⟨ad274, e274, hx274_0, hx274_1⟩ := at_T30 (Kd.R_reads' HO_20.out).2.2 x22_1 p274 q274
                cases e274
                replace p274 := eq_true p274
                replace q274 := eq_true q274
                go_wp2_with (first | ((with_reducible refine gate_dst (N := 10) rfl ?_); refine box_event ?hg (N := 10) ?hd (cs := #[.int .i64 0, .int .i64 0]) (t := 30) ?hr ?_; (case hd => rfl); (case hg => rfl); (case hr => first | (go_simp; done) | (go_simp; rfl)); intro gb275 hg w19 hbox hb; have n0_ := Aside0.mk (Kd.R_below (Kd.R_elderB (by (with_reducible repeat (first | apply Kd.R_alloc | apply Kd.R_drewN | apply Kd.R_drew)); exact HO_8.out) gb275 (Nat.le_of_eq hg.symm)) hb); have n1_ := Aside0.mk (Kd.R_below (Kd.R_elderB (by (with_reducible repeat (first | apply Kd.R_alloc | apply Kd.R_drewN | apply Kd.R_drew)); exact HO_20.out) gb275 (Nat.le_of_eq hg.symm)) hb); have n2_ := Aside0.mk (below_step (by repeat (first | (with_reducible first | exact HB.out | apply below_alloc | apply pw_below_drewN | apply below_drew1) | exact HB.out)) hb); have n3_ := Aside0.mk (hbox); have n4_ := Aside0.mk ((by rw [hg]; exact (below_size (by repeat (first | (with_reducible first | exact HB.out | apply below_alloc | apply pw_below_drewN | apply below_drew1) | exact HB.out))) : w.heap.size ≤ gb275)); have n5_ := Aside0.mk ((by rw [hg]; exact (below_size (by repeat (first | (with_reducible first | exact HB.out | apply below_alloc | apply pw_below_drewN | apply below_drew1) | exact HB.out))) : w.heap.size ≤ gb275)); clear HO_8; clear HO_20; clear HB; have HO_8 := n0_; have HO_20 := n1_; have HB := n2_; have BK275 := n3_; have GW275 := n4_; have GE275 := n5_; clear n0_ n1_ n2_ n3_ n4_ n5_; clear hb hbox hg; have hcz20_0 : w19.cell? ⟨gb275, 0, none⟩ = some (.int .i64 0) := (blk_cell BK275.out 0).trans rfl; have hcz20_1 : w19.cell? ⟨gb275, 1, none⟩ = some (.int .i64 0) := (blk_cell BK275.out 1).trans rfl; have hfz20_0 := blk_frozen BK275.out 0; have hfz20_1 := blk_frozen BK275.out 1) | ((with_reducible refine gate_builtin (b := .append) (xs := #[.tmp 26, .tmp 38]) rfl ?_); at_builtin; refine Kd.R_append k30 (w0 := w) w.heap.size rfl (.tmp 26) (.tmp 38) 26 30 (.agg #[(.int .i64 0), (.int .i64 0)]) 16 rfl Try.underlying26 info30 rfl (by decide) (by omega) u8 x8_1 (⟨wrap64 (((rd_T30 t271 x22_1).f0) + ((t266.size : Int) + 1)), wrap64 (((rd_T30 t271 x22_1).f1) + ((t266.size : Int) + 1))⟩ : S30) [.int .i64 (wrap64 (((rd_T30 t271 x22_1).f0) + ((t266.size : Int) + 1))), .int .i64 (wrap64 (((rd_T30 t271 x22_1).f1) + ((t266.size : Int) + 1)))] (fun k_ => some k_ ≠ (.slice (some ad274) t271.length co14 : Value).ownBlock ∧ k_ ≠ gb275) (fun _ => False) rfl (by first | (go_simp; done) | (go_simp; rfl)) ?aP (fun _ hk => hk.elim) ?aF ?aO ?aB ?aS ?aL ?_; (case aP => exact k30_mkM _ _ _ (⟨wrap64 (((rd_T30 t271 x22_1).f0) + ((t266.size : Int) + 1)), wrap64 (((rd_T30 t271 x22_1).f1) + ((t266.size : Int) + 1))⟩ : S30)); (case aB => exact (by repeat (first | (with_reducible first | exact HB.out | apply below_alloc | apply pw_below_drewN | apply below_drew1 | refine below_set ?_ GE275.out) | exact HB.out))); (case aF => exact (fun k_ hk => ⟨Kd.fresh' (Kd.R_lt (by (with_reducible repeat (first | apply Kd.R_alloc | apply Kd.R_drewN | apply Kd.R_drew)); exact (Kd.R_mono (Kd.R_far (p := ⟨gb275, 1, none⟩) (Kd.R_far (p := ⟨gb275, 0, none⟩) (Kd.R_mono HO_20.out (fun k_ hk => (⟨hk, hk.2⟩ : _ ∧ k_ ≠ gb275))) (fun _ hk => hk.2) (.int .i64 ((rd_T30 t271 x22_1).f0))) (fun _ hk => hk.2) (.int .i64 ((rd_T30 t271 x22_1).f1))) (fun _ h_ => h_.1)))) k_ hk, Kd.freshB (g := gb275) (o := .cells #[.int .i64 ((rd_T30 t271 x22_1).f0), .int .i64 ((rd_T30 t271 x22_1).f1)] 30 (0, 0)) (by (with_reducible repeat (first | refine blk_drewN ?_ _ | refine blk_drew ?_ | refine blk_alloc ?_ _)); refine blk_put (cs := #[.int .i64 ((rd_T30 t271 x22_1).f0), .int .i64 0]) ?_ 1 _ rfl; (with_reducible repeat (first | refine blk_drewN ?_ _ | refine blk_drew ?_ | refine blk_alloc ?_ _)); refine blk_put (cs := #[.int .i64 0, .int .i64 0]) ?_ 0 _ rfl; (with_reducible repeat (first | refine blk_drewN ?_ _ | refine blk_drew ?_ | refine blk_alloc ?_ _)); exact BK275.out) k_ hk⟩)); (case aO => exact (by (with_reducible repeat (first | apply Kd.R_alloc | apply Kd.R_drewN | apply Kd.R_drew)); exact Kd.R_mono (Kd.R_far (p := ⟨gb275, 1, none⟩) (Kd.R_far (p := ⟨gb275, 0, none⟩) (Kd.R_mono HO_8.out (fun k_ hk => (⟨hk, hk.2⟩ : _ ∧ k_ ≠ gb275))) (fun _ hk => hk.2) (.int .i64 ((rd_T30 t271 x22_1).f0))) (fun _ hk => hk.2) (.int .i64 ((rd_T30 t271 x22_1).f1))) (fun _ hk => ⟨hk.1.1, hk.1.2⟩))); (case aS => exact (below_size (by repeat (first | (with_reducible first | exact HB.out | apply below_alloc | apply pw_below_drewN | apply below_drew1 | refine below_set ?_ GE275.out) | exact HB.out)))); (case aL => have := LMc18.out; omega); intro v277 w21 ho hb hg hat; rw [← Ny276.out] at ho; have n0_ := Aside0.mk (Kd.R_after (ok := (fun k_ => k_ ≠ gb275)) (by (with_reducible repeat (first | apply Kd.R_alloc | apply Kd.R_drewN | apply Kd.R_drew)); exact Kd.R_mono (Kd.R_far (p := ⟨gb275, 1, none⟩) (Kd.R_far (p := ⟨gb275, 0, none⟩) (Kd.R_mono HO_20.out (fun k_ hk => (⟨hk, hk.2⟩ : _ ∧ k_ ≠ gb275))) (fun _ hk => hk.2) (.int .i64 ((rd_T30 t271 x22_1).f0))) (fun _ hk => hk.2) (.int .i64 ((rd_T30 t271 x22_1).f1))) (fun _ hk => ⟨hk.1.2, hk.1.1⟩)) hg hat); have n1_ := Aside0.mk (blk_grown (g := gb275) (o := .cells #[.int .i64 ((rd_T30 t271 x22_1).f0), .int .i64 ((rd_T30 t271 x22_1).f1)] 30 (0, 0)) (by (with_reducible repeat (first | refine blk_drewN ?_ _ | refine blk_drew ?_ | refine blk_alloc ?_ _)); refine blk_put (cs := #[.int .i64 ((rd_T30 t271 x22_1).f0), .int .i64 0]) ?_ 1 _ rfl; (with_reducible repeat (first | refine blk_drewN ?_ _ | refine blk_drew ?_ | refine blk_alloc ?_ _)); refine blk_put (cs := #[.int .i64 0, .int .i64 0]) ?_ 0 _ rfl; (with_reducible repeat (first | refine blk_drewN ?_ _ | refine blk_drew ?_ | refine blk_alloc ?_ _)); exact BK275.out) hg (Kd.R_away HO_8.out (fun _ hk => hk.2))); have n2_ := Aside0.mk (hb); have n3_ := Aside0.mk (ho); clear HO_20; clear BK275; clear HB; clear HO_8; have HO_20 := n0_; have BK275 := n1_; have HB := n2_; have HO278 := n3_; clear n0_ n1_ n2_ n3_; clear ho hb hg hat))
                go_roundg k1
                case measure => have := HK1.out; omega
                case rel => exact ⟨(y276), (wrap64 (x22_1 + 1)), (by first | rfl | (simp; done) | (simp [*]; done)), H', ⟨by have := HK1.out; omega⟩, ⟨by (with_reducible repeat (first | apply Kd.R_alloc | apply Kd.R_drewN | apply Kd.R_drew)); exact Kd.R_mono HO278.out (fun _ hk => hk.1)⟩, ⟨by (with_reducible repeat (first | apply Kd.R_alloc | apply Kd.R_drewN | apply Kd.R_drew)); exact Kd.R_mono HO_20.out (fun _ hk => hk.2)⟩, ⟨by repeat (first | (with_reducible first | exact HB.out | apply below_alloc | apply pw_below_drewN | apply below_drew1 | refine below_set ?_ GE275.out) | exact HB.out)⟩⟩
              · rw [if_neg c18] at H
                exact absurd H (by simp)
            · rw [if_neg c17] at H
              exact absurd H (by simp)
          · rw [if_neg c16] at H
            exact absurd H (by simp)
        · rw [if_neg c15] at H
          have c15b0 : decide (x22_1 < (t271.length : Int)) = false := decide_eq_false c15
          clear c15
          by_cases c22 : t265 = true
          · subst c22
            have H1 : (if (t266 ++ (⟨#[10]⟩ : ByteArray)).size + t267.size ≤ 9223372036854775807 then ((cluster_Split.f ((t266 ++ (⟨#[10]⟩ : ByteArray)) ++ t267)).bind fun t279 => ((abugidaref06_Same.f k1 t279 x8_1).bind fun t282 => (some t282))) else (none)) = some r := by rw [if_pos rfl] at H; exact H
            clear H
            have H := H1
            clear H1
            by_cases c23 : (t266 ++ (⟨#[10]⟩ : ByteArray)).size + t267.size ≤ 9223372036854775807
            · rw [if_pos c23] at H
              have c23b0 := eq_true c23
              have c23b1 : decide ((t266 ++ (⟨#[10]⟩ : ByteArray)).size + t267.size ≤ 9223372036854775807) = true := decide_eq_true c23
              try have c23b2 : (9223372036854775807 < (t266 ++ (⟨#[10]⟩ : ByteArray)).size + t267.size) = False := eq_false (Nat.not_lt.2 c23)
              replace H := Option.bind_eq_some_iff.mp H
              obtain ⟨t279, A240, H⟩ := H
              replace H : ((abugidaref06_Same.f k1 t279 x8_1).bind fun t282 => (some t282)) = some r := H
              have A24 := Aside0.mk A240
              clear A240
              replace H := Option.bind_eq_some_iff.mp H
              obtain ⟨t282, A250, H⟩ := H
              replace H : (some t282) = some r := H
              have A25 := Aside0.mk A250
              clear A250
              obtain rfl := Option.some.inj H
              go_wp2_with (first | (go_at_call 13; (with_reducible refine (cluster_Split.calls ((t266 ++ (⟨#[10]⟩ : ByteArray)) ++ t267) t279 _ A24.out).mono ?_); rintro e w26 ⟨v280, rfl, ho0, hb⟩; have n0_ := Aside0.mk (Kd.R_elder' (by (with_reducible repeat (first | apply Kd.R_alloc | apply Kd.R_drewN | apply Kd.R_drew)); exact HO_8.out) (Kd.R_base ho0) hb); have n1_ := Aside0.mk (Kd.R_elder' (by (with_reducible repeat (first | apply Kd.R_alloc | apply Kd.R_drewN | apply Kd.R_drew)); exact HO_20.out) (Kd.R_base ho0) hb); have n2_ := Aside0.mk (Kd.R_lower (Kd.R_new' (Kd.R_new' ho0 (Kd.R_lt (by (with_reducible repeat (first | apply Kd.R_alloc | apply Kd.R_drewN | apply Kd.R_drew)); exact HO_8.out))) (Kd.R_lt (by (with_reducible repeat (first | apply Kd.R_alloc | apply Kd.R_drewN | apply Kd.R_drew)); exact HO_20.out))) (below_size (by repeat (first | (with_reducible first | exact HB.out | apply below_alloc | apply pw_below_drewN | apply below_drew1) | exact HB.out)))); have n3_ := Aside0.mk (below_step (by repeat (first | (with_reducible first | exact HB.out | apply below_alloc | apply pw_below_drewN | apply below_drew1) | exact HB.out)) hb); clear HO_8; clear HO_20; clear HB; have HO_8 := n0_; have HO_20 := n1_; have HO281 := n2_; have HB := n3_; clear n0_ n1_ n2_ n3_; (try clear hb); (try clear hb2); (try clear hk); (try clear hi); (try clear ho0); obtain ⟨Ao27, co27, eo27⟩ := Kd.R_slice HO281.out; subst eo27; obtain ⟨Ao28, co28, eo28⟩ := Kd.R_slice HO_8.out; subst eo28) | (go_at_call 12; (with_reducible refine (abugidaref06_Same.calls k1 _ _ t279 _ _ x8_1 t282 _ ?side1 ?side2 ?side3 ?side4 A25.out).mono ?_); (case side1 => repeat (first | exact (Kd.R_reads' HO281.out).2.2 | (with_reducible refine Kd.C_alloc ?_ _) | (with_reducible refine Kd.C_drewN ?_ _) | (with_reducible refine Kd.C_drew ?_))); (case side2 => exact (Kd.R_reads' HO281.out).2.1); (case side3 => repeat (first | exact (Kd.R_reads' HO_8.out).2.2 | (with_reducible refine Kd.C_alloc ?_ _) | (with_reducible refine Kd.C_drewN ?_ _) | (with_reducible refine Kd.C_drew ?_))); (case side4 => exact (Kd.R_reads' HO_8.out).2.1); rintro e w' ⟨rfl, ⟨nd, rfl⟩⟩))
              go_ret
              exact ⟨by first | rfl | (simp [errW_none, errW_some] <;> rfl) | (simp [*, errW_none, errW_some] <;> rfl), by repeat (first | (with_reducible first | exact HB.out | apply below_alloc | apply pw_below_drewN | apply below_drew1) | exact HB.out)⟩
            · rw [if_neg c23] at H
              exact absurd H (by simp)
          · replace c22 := Bool.eq_false_iff.mpr c22
            subst c22
            have H1 : (some false) = some r := by rw [if_neg (show ¬ (false = true) by decide)] at H; exact H
            clear H
            have H := H1
            clear H1
            obtain rfl := Option.some.inj H
            go_wp2
            go_ret
            exact ⟨by first | rfl | (simp [errW_none, errW_some] <;> rfl) | (simp [*, errW_none, errW_some] <;> rfl), by repeat (first | (with_reducible first | exact HB.out | apply below_alloc | apply pw_below_drewN | apply below_drew1) | exact HB.out)⟩
  · rw [if_neg c5] at H
    exact absurd H (by simp)

/-- THE ONE PURE STATEMENT of abugidalaw06_ClusterLines: yours. -/
def abugidalaw06_ClusterLines.Pure : Prop := ∀ (l0 : List Int) (l1 : List Int), l0.length ≤ maxLen → l0.length * 8 ≤ 140737488351232 → (∀ x ∈ l0, (Lit.int .i64 x).wf = true) → l1.length ≤ maxLen → l1.length * 8 ≤ 140737488351232 → (∀ x ∈ l1, (Lit.int .i64 x).wf = true) → ∃ k, abugidalaw06_ClusterLines.f k l0 l1 = some true
theorem abugidalaw06_ClusterLines.walk (P : abugidalaw06_ClusterLines.Pure) (a0 : Option Addr) (len0 cap0 : Nat) (z0 : List Int) (a1 : Option Addr) (len1 cap1 : Nat) (z1 : List Int) (w : World) (w0 : (a0 = none ∧ len0 = 0 ∧ cap0 = 0 ∧ z0 = []) ∨ ∃ x, a0 = some x ∧ len0 ≤ cap0 ∧ cap0 ≤ maxLen ∧ z0.length = cap0 ∧ (∀ i, i < z0.length → w.cell? (x.add i) = some (.int .i64 (z0.getD i 0))) ∧ ∀ n ∈ z0, (Lit.int .i64 n).wf = true) (y0 : len0 * 8 ≤ 140737488351232) (w1 : (a1 = none ∧ len1 = 0 ∧ cap1 = 0 ∧ z1 = []) ∨ ∃ x, a1 = some x ∧ len1 ≤ cap1 ∧ cap1 ≤ maxLen ∧ z1.length = cap1 ∧ (∀ i, i < z1.length → w.cell? (x.add i) = some (.int .i64 (z1.getD i 0))) ∧ ∀ n ∈ z1, (Lit.int .i64 n).wf = true) (y1 : len1 * 8 ≤ 140737488351232) :
    Calls Try.prog 8 #[.slice a0 len0 cap0, .slice a1 len1 cap1] w fun e w' => e = .returned (.bool true) ∧ Below w.heap.size w w' := by
  obtain ⟨l0, rfl, hr0, hm0, hw0, hc0⟩ := ReadsInt.ofRowC w0
  obtain ⟨l1, rfl, hr1, hm1, hw1, hc1⟩ := ReadsInt.ofRowC w1
  obtain ⟨k, h⟩ := P l0 l1 hm0 y0 hw0 hm1 y1 hw1
  refine (abugidalaw06_ClusterLines.calls k _ _ l0 _ _ l1 true w (Kd.C_of_reads (d := (0 : Int)) (h1 := fun _ => rfl) hr0) hc0 (Kd.C_of_reads (d := (0 : Int)) (h1 := fun _ => rfl) hr1) hc1 h).mono ?_
  rintro e w' ⟨rfl, hd⟩
  exact ⟨rfl, hd⟩

end Go.Proofs.Ytngdddgoplmlbaa.Q

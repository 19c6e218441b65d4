-- Written by wip/tools/myprint.py, a program of this session that drives the kit's print.py; not a text of print.sh.
import Derived.Test.YthllgpjjjegenaaQx0
import Derived.Test.YthllgpjjjegenaaQx1
import Derived.Test.YthllgpjjjegenaaQx2
import Derived.Test.YthllgpjjjegenaaQx3
namespace Go.Proofs.Ythllgpjjjegenaa.Q
open Go.RowKit Go.Proofs.YthllgpjjjegenaaW.PrintWords Go.Proofs.YthllgpjjjegenaaW.PrintLast Go.Proofs.YthllgpjjjegenaaW.PrintMore
attribute [local go_sem] max2_int min2_int max_two min_two max_three min_three max_four min_four   -- for this text's walks alone
set_option linter.unusedVariables false
set_option linter.unusedSimpArgs false

/-! ### breaks_May: function 12 -/
mutual
def breaks_May.l0 : Nat → List Int → List (S33) → Int → Int → ByteArray → List (S33) → Option (List Int)
  | 0, _, _, _, _, _, _ => none
  | k + 1, x2, x12, x13, x14, x124000, x128000 => if x14 < x13 then (if 0 ≤ x14 then (if x14 < (x12.length : Int) then ((breaks_May_1.f k x14 x124000 x128000).bind fun t130 => ((chars_Class.f k t130).bind fun t131 => (if 0 ≤ (wrap64 (((rd_T33 x12 x14).f1) - 1)) then (if (wrap64 (((rd_T33 x12 x14).f1) - 1)) < (x124000.size : Int) then ((chars_Class.f k (wrap64 (bt x124000 (wrap64 (((rd_T33 x12 x14).f1) - 1))))).bind fun t132 => (if t131 = 1 then (if x2.length < 17592186044416 then (breaks_May.l0 k (x2 ++ [2]) x12 x13 (wrap64 (x14 + 1)) x124000 x128000) else (none)) else (if x14 = (wrap64 ((x128000.length : Int) - 1)) then (breaks_May.j1 k x2 x14 t131 t132 x12 x13 x14 true x124000 x128000) else ((breaks_May_1.f k (wrap64 (x14 + 1)) x124000 x128000).bind fun t136 => ((chars_Class.f k t136).bind fun t137 => ((breaks_stuck.f t137).bind fun t138 => (breaks_May.j1 k x2 x14 t131 t132 x12 x13 x14 t138 x124000 x128000))))))) else (none)) else (none)))) else (none)) else (none)) else (some x2)
def breaks_May.j1 : Nat → List Int → Int → Int → Int → List (S33) → Int → Int → Bool → ByteArray → List (S33) → Option (List Int)
  | 0, _, _, _, _, _, _, _, _, _, _ => none
  | k + 1, x2, x5, x7, x8, x12, x13, x14, x39, x124000, x128000 => if x39 = true then (if x2.length < 17592186044416 then (breaks_May.l0 k (x2 ++ [0]) x12 x13 (wrap64 (x14 + 1)) x124000 x128000) else (none)) else (if x7 = 2 then (breaks_May.j2 k x2 x5 x8 x12 x13 x14 true x124000 x128000) else (breaks_May.j2 k x2 x5 x8 x12 x13 x14 (x8 == 14) x124000 x128000))
def breaks_May.j2 : Nat → List Int → Int → Int → List (S33) → Int → Int → Bool → ByteArray → List (S33) → Option (List Int)
  | 0, _, _, _, _, _, _, _, _, _ => none
  | k + 1, x2, x5, x8, x12, x13, x14, x56, x124000, x128000 => if x56 = true then (if x2.length < 17592186044416 then (breaks_May.l0 k (x2 ++ [1]) x12 x13 (wrap64 (x14 + 1)) x124000 x128000) else (none)) else (if x8 = 13 then (if x2.length < 17592186044416 then (breaks_May.l0 k (x2 ++ [0]) x12 x13 (wrap64 (x14 + 1)) x124000 x128000) else (none)) else ((breaks_May_1.f k x5 x124000 x128000).bind fun t148 => (if t148 = 45 then (if x2.length < 17592186044416 then (breaks_May.l0 k (x2 ++ [1]) x12 x13 (wrap64 (x14 + 1)) x124000 x128000) else (none)) else ((breaks_May_1.f k x5 x124000 x128000).bind fun t152 => ((chars_Script.f k t152).bind fun t153 => (if t153 = 3 then ((breaks_May_1.f k (wrap64 (x5 + 1)) x124000 x128000).bind fun t154 => ((chars_Script.f k t154).bind fun t155 => (if t155 = 3 then (if x2.length < 17592186044416 then (breaks_May.l0 k (x2 ++ [1]) x12 x13 (wrap64 (x14 + 1)) x124000 x128000) else (none)) else (if x2.length < 17592186044416 then (breaks_May.l0 k (x2 ++ [0]) x12 x13 (wrap64 (x14 + 1)) x124000 x128000) else (none))))) else (if x2.length < 17592186044416 then (breaks_May.l0 k (x2 ++ [0]) x12 x13 (wrap64 (x14 + 1)) x124000 x128000) else (none))))))))
end
def breaks_May.f (k : Nat) (a0 : ByteArray) : Option (List Int) := (cluster_Split.f a0).bind fun t124 => (breaks_May.l0 k ([] : List Int) t124 (t124.length : Int) 0 a0 t124)
theorem breaks_May.mono_l : ∀ k, (∀ y0 y1 y2 y3 y4 y5, LeO (breaks_May.l0 k y0 y1 y2 y3 y4 y5) (breaks_May.l0 (k + 1) y0 y1 y2 y3 y4 y5)) ∧ (∀ y0 y1 y2 y3 y4 y5 y6 y7 y8 y9, LeO (breaks_May.j1 k y0 y1 y2 y3 y4 y5 y6 y7 y8 y9) (breaks_May.j1 (k + 1) y0 y1 y2 y3 y4 y5 y6 y7 y8 y9)) ∧ (∀ y0 y1 y2 y3 y4 y5 y6 y7 y8, LeO (breaks_May.j2 k y0 y1 y2 y3 y4 y5 y6 y7 y8) (breaks_May.j2 (k + 1) y0 y1 y2 y3 y4 y5 y6 y7 y8))
  | 0 => ⟨fun _ _ _ _ _ _ r h => by simp [breaks_May.l0] at h, fun _ _ _ _ _ _ _ _ _ _ r h => by simp [breaks_May.j1] at h, fun _ _ _ _ _ _ _ _ _ r h => by simp [breaks_May.j2] at h⟩
  | k + 1 => by
    obtain ⟨ih0, ih1, ih2⟩ := breaks_May.mono_l k
    refine ⟨?_, ?_, ?_⟩
    · intro y0 y1 y2 y3 y4 y5
      unfold breaks_May.l0
      repeat' first
      | (with_reducible exact ih0 _ _ _ _ _ _)
      | (with_reducible exact ih1 _ _ _ _ _ _ _ _ _ _)
      | (with_reducible exact ih2 _ _ _ _ _ _ _ _ _)
      | (with_reducible exact breaks_May_1.mono _ _ _ _)
      | (with_reducible exact chars_Class.mono _ _)
      | (with_reducible exact chars_Script.mono _ _)
      | (with_reducible exact LeO.refl _)
      | (with_reducible exact LeO.none _)
      | (with_reducible refine LeO.ite ?_ ?_)
      | (with_reducible refine LeO.bind ?_ (fun _ => ?_))
      | exact ih0 _ _ _ _ _ _
      | exact ih1 _ _ _ _ _ _ _ _ _ _
      | exact ih2 _ _ _ _ _ _ _ _ _
      | exact breaks_May_1.mono _ _ _ _
      | exact chars_Class.mono _ _
      | exact chars_Script.mono _ _
      | exact LeO.none _
      | refine LeO.ite ?_ ?_
      | refine LeO.bind ?_ (fun _ => ?_)
    · intro y0 y1 y2 y3 y4 y5 y6 y7 y8 y9
      unfold breaks_May.j1
      repeat' first
      | (with_reducible exact ih0 _ _ _ _ _ _)
      | (with_reducible exact ih1 _ _ _ _ _ _ _ _ _ _)
      | (with_reducible exact ih2 _ _ _ _ _ _ _ _ _)
      | (with_reducible exact breaks_May_1.mono _ _ _ _)
      | (with_reducible exact chars_Class.mono _ _)
      | (with_reducible exact chars_Script.mono _ _)
      | (with_reducible exact LeO.refl _)
      | (with_reducible exact LeO.none _)
      | (with_reducible refine LeO.ite ?_ ?_)
      | (with_reducible refine LeO.bind ?_ (fun _ => ?_))
      | exact ih0 _ _ _ _ _ _
      | exact ih1 _ _ _ _ _ _ _ _ _ _
      | exact ih2 _ _ _ _ _ _ _ _ _
      | exact breaks_May_1.mono _ _ _ _
      | exact chars_Class.mono _ _
      | exact chars_Script.mono _ _
      | exact LeO.none _
      | refine LeO.ite ?_ ?_
      | refine LeO.bind ?_ (fun _ => ?_)
    · intro y0 y1 y2 y3 y4 y5 y6 y7 y8
      unfold breaks_May.j2
      repeat' first
      | (with_reducible exact ih0 _ _ _ _ _ _)
      | (with_reducible exact ih1 _ _ _ _ _ _ _ _ _ _)
      | (with_reducible exact ih2 _ _ _ _ _ _ _ _ _)
      | (with_reducible exact breaks_May_1.mono _ _ _ _)
      | (with_reducible exact chars_Class.mono _ _)
      | (with_reducible exact chars_Script.mono _ _)
      | (with_reducible exact LeO.refl _)
      | (with_reducible exact LeO.none _)
      | (with_reducible refine LeO.ite ?_ ?_)
      | (with_reducible refine LeO.bind ?_ (fun _ => ?_))
      | exact ih0 _ _ _ _ _ _
      | exact ih1 _ _ _ _ _ _ _ _ _ _
      | exact ih2 _ _ _ _ _ _ _ _ _
      | exact breaks_May_1.mono _ _ _ _
      | exact chars_Class.mono _ _
      | exact chars_Script.mono _ _
      | exact LeO.none _
      | refine LeO.ite ?_ ?_
      | refine LeO.bind ?_ (fun _ => ?_)
theorem breaks_May.mono : ∀ a0 k, LeO (breaks_May.f k a0) (breaks_May.f (k + 1) a0) := by
  intro a0 k
  obtain ⟨ih0, ih1, ih2⟩ := breaks_May.mono_l k
  unfold breaks_May.f
  repeat' first
      | (with_reducible exact ih0 _ _ _ _ _ _)
      | (with_reducible exact ih1 _ _ _ _ _ _ _ _ _ _)
      | (with_reducible exact ih2 _ _ _ _ _ _ _ _ _)
      | (with_reducible exact breaks_May_1.mono _ _ _ _)
      | (with_reducible exact chars_Class.mono _ _)
      | (with_reducible exact chars_Script.mono _ _)
      | (with_reducible exact LeO.refl _)
      | (with_reducible exact LeO.none _)
      | (with_reducible refine LeO.ite ?_ ?_)
      | (with_reducible refine LeO.bind ?_ (fun _ => ?_))
      | exact ih0 _ _ _ _ _ _
      | exact ih1 _ _ _ _ _ _ _ _ _ _
      | exact ih2 _ _ _ _ _ _ _ _ _
      | exact breaks_May_1.mono _ _ _ _
      | exact chars_Class.mono _ _
      | exact chars_Script.mono _ _
      | exact LeO.none _
      | refine LeO.ite ?_ ?_
      | refine LeO.bind ?_ (fun _ => ?_)
def breaks_May.T6 : Bool × List (List Nat × List Nat) := (true, [([], []), ([], []), ([0, 1], [0, 1]), ([2, 2], [2]), ([], []), ([], []), ([5], [5]), ([6], [6]), ([4, 7], [4, 7]), ([8], [8]), ([9, 3], [9]), ([3, 10, 0, 1, 2, 3], [3]), ([10, 11, 0, 1, 2, 3, 4, 5, 6, 7, 8, 9, 10, 11], [10])])
def breaks_May.B6 : List Nat := [0, 0, 3, 7, 0, 0, 32, 96, 240, 496, 1023, 2047, 4095]
theorem breaks_May.tab6 : rtab .any (opsOf Try.f12 6) = breaks_May.T6 := by kernel_rfl
theorem breaks_May.bits6 : waitsOk breaks_May.T6.2 breaks_May.B6 = true := by kernel_rfl
set_option maxHeartbeats 8000000 in
set_option maxRecDepth 100000 in
theorem breaks_May.calls (k : Nat) (a0 : ByteArray) (r : List Int) (w : World) (h : breaks_May.f k a0 = some r) :
    Calls Try.prog 12 #[.string a0] w fun e w' => ∃ v0_ : Value, e = .returned (v0_) ∧ Kd.R (Kd.int .i64) 3 w' w.heap.size (fun _ => True) v0_ r ∧ Below w.heap.size w w' := by
  have hu33 := Try.underlying33
  have HB := Aside0.mk (Below.refl w.heap.size w)
  have H : ((cluster_Split.f a0).bind fun t124 => (breaks_May.l0 k ([] : List Int) t124 (t124.length : Int) 0 a0 t124)) = some r := h
  clear h
  replace H := Option.bind_eq_some_iff.mp H
  obtain ⟨t124, A20, H⟩ := H
  replace H : (breaks_May.l0 k ([] : List Int) t124 (t124.length : Int) 0 a0 t124) = some r := H
  have A2 := Aside0.mk A20
  clear A20
  have H' := Aside0.mk H
  clear H
  go_enter Try.func12, Try.ntmps12
  go_wp2_with (first | ((with_reducible refine gate_dst (N := 1) rfl ?_); refine box_event ?hg (N := 1) ?hd (cs := #[.string a0]) (t := 9) ?hr ?_; (case hd => rfl); (case hg => rfl); (case hr => first | (go_simp; done) | (go_simp; rfl)); intro gb123 hg w3 hbox hb; have n0_ := Aside0.mk (below_step (by repeat (first | (with_reducible first | exact HB.out | apply below_alloc | apply pw_below_drewN | apply below_drew1) | exact HB.out)) hb); have n1_ := Aside0.mk (hbox); have n2_ := Aside0.mk ((by rw [hg]; exact (below_size (by repeat (first | (with_reducible first | exact HB.out | apply below_alloc | apply pw_below_drewN | apply below_drew1) | exact HB.out))) : w.heap.size ≤ gb123)); have n3_ := Aside0.mk ((by rw [hg]; exact (below_size (by repeat (first | (with_reducible first | exact HB.out | apply below_alloc | apply pw_below_drewN | apply below_drew1) | exact HB.out))) : w.heap.size ≤ gb123)); clear HB; have HB := n0_; have BK123 := n1_; have GW123 := n2_; have GE123 := n3_; clear n0_ n1_ n2_ n3_; clear hb hbox hg; have hcz4_0 : w3.cell? ⟨gb123, 0, none⟩ = some (.string a0) := (blk_cell BK123.out 0).trans rfl; have hfz4_0 := blk_frozen BK123.out 0) | ((with_reducible refine gate_callee (f := 14) rfl ?_); refine goesL_ (some 10) rfl rfl Try.func14 (by kernel_rfl) rfl #[.string a0] rfl (by (try simp only [List.map_toArray, List.map_cons, List.map_nil]); first | done | rfl | (simp only [List.length_drop, List.length_take]; rfl)) ?_; (with_reducible refine (cluster_Split.calls a0 t124 _ A2.out).mono ?_); rintro e w5 ⟨v125, rfl, ho0, hb⟩; refine ⟨_, rfl, ?_⟩; have n0_ := Aside0.mk (Kd.R_lower ho0 (below_size (by repeat (first | (with_reducible first | exact HB.out | apply below_alloc | apply pw_below_drewN | apply below_drew1 | refine below_set ?_ GE123.out) | exact HB.out)))); have n1_ := Aside0.mk (blk_below (g := gb123) (o := .cells #[.string a0] 9 (0, 0)) (by (with_reducible repeat (first | refine blk_drewN ?_ _ | refine blk_drew ?_ | refine blk_alloc ?_ _)); exact BK123.out) hb); have n2_ := Aside0.mk (below_step (by repeat (first | (with_reducible first | exact HB.out | apply below_alloc | apply pw_below_drewN | apply below_drew1 | refine below_set ?_ GE123.out) | exact HB.out)) hb); clear BK123; clear HB; have HO126 := n0_; have BK123 := n1_; have HB := n2_; clear n0_ n1_ n2_; (try clear hb); (try clear hb2); (try clear hk); (try clear hi); (try clear ho0)) | ((with_reducible refine gate_dst (N := 3) rfl ?_); refine box_event ?hg (N := 3) ?hd (cs := #[.slice none 0 0]) (t := 28) ?hr ?_; (case hd => rfl); (case hg => rfl); (case hr => first | (go_simp; done) | (go_simp; rfl)); intro gb127 hg w6 hbox hb; have n0_ := Aside0.mk (Kd.R_below (by (with_reducible repeat (first | apply Kd.R_alloc | apply Kd.R_drewN | apply Kd.R_drew)); exact HO126.out) hb); have n1_ := Aside0.mk (blk_below (g := gb123) (o := .cells #[.string a0] 9 (0, 0)) (by (with_reducible repeat (first | refine blk_drewN ?_ _ | refine blk_drew ?_ | refine blk_alloc ?_ _)); exact BK123.out) hb); have n2_ := Aside0.mk (below_step (by repeat (first | (with_reducible first | exact HB.out | apply below_alloc | apply pw_below_drewN | apply below_drew1 | refine below_set ?_ GE123.out) | exact HB.out)) hb); have n3_ := Aside0.mk (hbox); have n4_ := Aside0.mk ((by rw [hg]; exact (below_size (by repeat (first | (with_reducible first | exact HB.out | apply below_alloc | apply pw_below_drewN | apply below_drew1 | refine below_set ?_ GE123.out) | exact HB.out))) : w.heap.size ≤ gb127)); have n5_ := Aside0.mk ((by rw [hg]; exact (below_size (by repeat (first | (with_reducible first | exact HB.out | apply below_alloc | apply pw_below_drewN | apply below_drew1 | refine below_set ?_ GE123.out) | exact HB.out))) : w.heap.size ≤ gb127)); have n6_ := Aside0.mk ((by rw [hg]; exact Nat.ne_of_lt (blk_lt (g := gb123) (o := .cells #[.string a0] 9 (0, 0)) (by (with_reducible repeat (first | refine blk_drewN ?_ _ | refine blk_drew ?_ | refine blk_alloc ?_ _)); exact BK123.out)) : gb123 ≠ gb127)); have n7_ := Aside0.mk ((by rw [hg]; exact Nat.ne_of_gt (blk_lt (g := gb123) (o := .cells #[.string a0] 9 (0, 0)) (by (with_reducible repeat (first | refine blk_drewN ?_ _ | refine blk_drew ?_ | refine blk_alloc ?_ _)); exact BK123.out)) : gb127 ≠ gb123)); clear HO126; clear BK123; clear HB; have HO126 := n0_; have BK123 := n1_; have HB := n2_; have BK127 := n3_; have GW127 := n4_; have GE127 := n5_; have NB123_127 := n6_; have NB127_123 := n7_; clear n0_ n1_ n2_ n3_ n4_ n5_ n6_ n7_; clear hb hbox hg; obtain ⟨Ao7, co7, eo7⟩ := Kd.R_slice HO126.out; subst eo7; have hnb8 := NB127_123.out; have hnc8 := NB123_127.out; have hcz9_0 : w6.cell? ⟨gb127, 0, none⟩ = some (.slice none 0 0) := (blk_cell BK127.out 0).trans rfl; have hfz9_0 := blk_frozen BK127.out 0))
  go_loopg [2, 14] k (fun kq v2 v14 w' => ∃ (x2_1 : List Int) (x14_1 : Int), v14 = .int .i64 x14_1 ∧ Aside0 (breaks_May.l0 kq x2_1 t124 (t124.length : Int) x14_1 a0 t124 = some r) ∧ Aside0 (kq ≤ k) ∧ Aside0 (Kd.R (Kd.int .i64) 3 w' w.heap.size (fun _ => True) v2 x2_1) ∧ Aside0 (Kd.R k33 33 w' w.heap.size (fun _ => True) (.slice Ao7 t124.length co7) t124) ∧ Aside0 (Kd.R k33 33 w' w.heap.size (fun _ => True) (.slice Ao7 t124.length co7) t124) ∧ Aside0 (w'.heap[gb123]? = some (.cells #[.string a0] 9 (0, 0))) ∧ Aside0 (w'.heap[gb127]? = some (.cells #[(.slice Ao7 t124.length co7)] 28 (0, 0))) ∧ Aside0 (Below w.heap.size w w'))
  case atStart => exact ⟨(([] : List Int)), (0), (by first | rfl | (simp; done) | (simp [*]; done)), H', ⟨Nat.le_refl _⟩, ⟨by first | exact Kd.R_nil _ _ _ _ _ | exact Kd.N_nil _ _ _ _ _ | exact Kd.V_nil _ _ _ _ _ | exact Kd.Q_nil _ _ _ _ _ | exact Kd.S_nil _ _ _ _ _⟩, ⟨by (with_reducible repeat (first | apply Kd.R_alloc | apply Kd.R_drewN | apply Kd.R_drew)); exact Kd.R_mono (Kd.R_far (p := ⟨gb127, 0, none⟩) (Kd.R_types HO126.out BK127.out (by decide)) (fun _ hk => hk.2) (.slice Ao7 t124.length co7)) (fun _ hk => trivial)⟩, ⟨by (with_reducible repeat (first | apply Kd.R_alloc | apply Kd.R_drewN | apply Kd.R_drew)); exact Kd.R_mono (Kd.R_far (p := ⟨gb127, 0, none⟩) (Kd.R_types HO126.out BK127.out (by decide)) (fun _ hk => hk.2) (.slice Ao7 t124.length co7)) (fun _ hk => trivial)⟩, ⟨by (with_reducible repeat (first | refine blk_drewN ?_ _ | refine blk_drew ?_ | refine blk_alloc ?_ _)); refine blk_far ?_ NB123_127.out _; (with_reducible repeat (first | refine blk_drewN ?_ _ | refine blk_drew ?_ | refine blk_alloc ?_ _)); exact BK123.out⟩, ⟨by (with_reducible repeat (first | refine blk_drewN ?_ _ | refine blk_drew ?_ | refine blk_alloc ?_ _)); refine blk_put (cs := #[.slice none 0 0]) ?_ 0 _ rfl; (with_reducible repeat (first | refine blk_drewN ?_ _ | refine blk_drew ?_ | refine blk_alloc ?_ _)); exact BK127.out⟩, ⟨by repeat (first | (with_reducible first | exact HB.out | apply below_alloc | apply pw_below_drewN | apply below_drew1 | refine below_set ?_ GE123.out | refine below_set ?_ GE127.out) | exact HB.out)⟩⟩
  case round =>
    clear H'
    try clear c1
    try clear p2
    try clear c8
    try clear hcz4_0
    try clear hcz9_0
    try clear hfz4_0
    try clear hfz9_0
    obtain ⟨x2_1, x14_1, rfl, HA, HK1, HO_2, HO_12, HO_128000, BK123, BK127, HB⟩ := hrel
    cases gk with
    | zero => exact absurd HA.out (by simp [breaks_May.l0])
    | succ k1 =>
      have H := HA.out
      clear HA
      simp only [breaks_May.l0] at H
      by_cases c10 : x14_1 < (t124.length : Int)
      · rw [if_pos c10] at H
        have c10b0 : decide (x14_1 < (t124.length : Int)) = true := decide_eq_true c10
        clear c10
        by_cases c11 : 0 ≤ x14_1
        · rw [if_pos c11] at H
          have c11b0 : decide (0 ≤ x14_1) = true := decide_eq_true c11
          clear c11
          by_cases c12 : x14_1 < (t124.length : Int)
          · rw [if_pos c12] at H
            have c12b0 : decide (x14_1 < (t124.length : Int)) = true := decide_eq_true c12
            clear c12
            replace H := Option.bind_eq_some_iff.mp H
            obtain ⟨t130, A130, H⟩ := H
            replace H : ((chars_Class.f k1 t130).bind fun t131 => (if 0 ≤ (wrap64 (((rd_T33 t124 x14_1).f1) - 1)) then (if (wrap64 (((rd_T33 t124 x14_1).f1) - 1)) < (a0.size : Int) then ((chars_Class.f k1 (wrap64 (bt a0 (wrap64 (((rd_T33 t124 x14_1).f1) - 1))))).bind fun t132 => (if t131 = 1 then (if x2_1.length < 17592186044416 then (breaks_May.l0 k1 (x2_1 ++ [2]) t124 (t124.length : Int) (wrap64 (x14_1 + 1)) a0 t124) else (none)) else (if x14_1 = (wrap64 ((t124.length : Int) - 1)) then (breaks_May.j1 k1 x2_1 x14_1 t131 t132 t124 (t124.length : Int) x14_1 true a0 t124) else ((breaks_May_1.f k1 (wrap64 (x14_1 + 1)) a0 t124).bind fun t136 => ((chars_Class.f k1 t136).bind fun t137 => ((breaks_stuck.f t137).bind fun t138 => (breaks_May.j1 k1 x2_1 x14_1 t131 t132 t124 (t124.length : Int) x14_1 t138 a0 t124))))))) else (none)) else (none))) = some r := H
            have A13 := Aside0.mk A130
            clear A130
            replace H := Option.bind_eq_some_iff.mp H
            obtain ⟨t131, A140, H⟩ := H
            replace H : (if 0 ≤ (wrap64 (((rd_T33 t124 x14_1).f1) - 1)) then (if (wrap64 (((rd_T33 t124 x14_1).f1) - 1)) < (a0.size : Int) then ((chars_Class.f k1 (wrap64 (bt a0 (wrap64 (((rd_T33 t124 x14_1).f1) - 1))))).bind fun t132 => (if t131 = 1 then (if x2_1.length < 17592186044416 then (breaks_May.l0 k1 (x2_1 ++ [2]) t124 (t124.length : Int) (wrap64 (x14_1 + 1)) a0 t124) else (none)) else (if x14_1 = (wrap64 ((t124.length : Int) - 1)) then (breaks_May.j1 k1 x2_1 x14_1 t131 t132 t124 (t124.length : Int) x14_1 true a0 t124) else ((breaks_May_1.f k1 (wrap64 (x14_1 + 1)) a0 t124).bind fun t136 => ((chars_Class.f k1 t136).bind fun t137 => ((breaks_stuck.f t137).bind fun t138 => (breaks_May.j1 k1 x2_1 x14_1 t131 t132 t124 (t124.length : Int) x14_1 t138 a0 t124))))))) else (none)) else (none)) = some r := H
            have A14 := Aside0.mk A140
            clear A140
            obtain ⟨ji15, hji15⟩ : ∃ j_ : Int, (wrap64 (((rd_T33 t124 x14_1).f1) - 1)) = j_ := ⟨_, rfl⟩
            replace H : (if 0 ≤ (ji15) then (if (ji15) < (a0.size : Int) then ((chars_Class.f k1 (wrap64 (bt a0 (ji15)))).bind fun t132 => (if t131 = 1 then (if x2_1.length < 17592186044416 then (breaks_May.l0 k1 (x2_1 ++ [2]) t124 (t124.length : Int) (wrap64 (x14_1 + 1)) a0 t124) else (none)) else (if x14_1 = (wrap64 ((t124.length : Int) - 1)) then (breaks_May.j1 k1 x2_1 x14_1 t131 t132 t124 (t124.length : Int) x14_1 true a0 t124) else ((breaks_May_1.f k1 (wrap64 (x14_1 + 1)) a0 t124).bind fun t136 => ((chars_Class.f k1 t136).bind fun t137 => ((breaks_stuck.f t137).bind fun t138 => (breaks_May.j1 k1 x2_1 x14_1 t131 t132 t124 (t124.length : Int) x14_1 t138 a0 t124))))))) else (none)) else (none)) = some r := by first | (rw [hji15] at H; exact H) | (simp only [hji15] at H ⊢; exact H)
            (try rw [hji15] at A13)
            (try rw [hji15] at A14)
            have hji15w : (IntKind.i64.wrap (((rd_T33 t124 x14_1).f1) - 1)) = ji15 := (i64_w _).trans hji15
            by_cases c16 : 0 ≤ (ji15)
            · rw [if_pos c16] at H
              have c16b0 : decide (0 ≤ (ji15)) = true := decide_eq_true c16
              clear c16
              by_cases c17 : (ji15) < (a0.size : Int)
              · rw [if_pos c17] at H
                have c17b0 : decide ((ji15) < (a0.size : Int)) = true := decide_eq_true c17
                clear c17
                replace H := Option.bind_eq_some_iff.mp H
                obtain ⟨t132, A190, H⟩ := H
                replace H : (if t131 = 1 then (if x2_1.length < 17592186044416 then (breaks_May.l0 k1 (x2_1 ++ [2]) t124 (t124.length : Int) (wrap64 (x14_1 + 1)) a0 t124) else (none)) else (if x14_1 = (wrap64 ((t124.length : Int) - 1)) then (breaks_May.j1 k1 x2_1 x14_1 t131 t132 t124 (t124.length : Int) x14_1 true a0 t124) else ((breaks_May_1.f k1 (wrap64 (x14_1 + 1)) a0 t124).bind fun t136 => ((chars_Class.f k1 t136).bind fun t137 => ((breaks_stuck.f t137).bind fun t138 => (breaks_May.j1 k1 x2_1 x14_1 t131 t132 t124 (t124.length : Int) x14_1 t138 a0 t124)))))) = some r := H
                have A19 := Aside0.mk A190
                clear A190
                by_cases c20 : t131 = 1
                · rw [if_pos c20] at H
                  have c20b0 : (t131 == 1) = true := beq_iff_eq.mpr c20
                  have c20b1 : (t131 != 1) = false := bne_eq_false_iff_eq.mpr c20
                  clear c20
                  by_cases c21 : x2_1.length < 17592186044416
                  · rw [if_pos c21] at H
                    have LMc21 := Aside0.mk c21
                    clear c21
                    obtain ⟨y133, hy133⟩ : ∃ y_ : List Int, y_ = (x2_1 ++ [2]) := ⟨_, rfl⟩
                    replace H : (breaks_May.l0 k1 y133 t124 (t124.length : Int) (wrap64 (x14_1 + 1)) a0 t124) = some r := by first | (rw [hy133]; with_reducible exact H) | (have H2_ := (Option.bind_some _ _).symm.trans H; rw [hy133]; with_reducible exact H2_) | (have H2_ := (Option.bind_some _ _).symm.trans H; with_reducible exact H2_) | with_reducible exact H | (rw [hy133]; exact H) | exact H
                    have Ny133 := Aside0.mk hy133
                    clear hy133
                    have H' := Aside0.mk H
                    clear H
                    have p128 : 0 ≤ (x14_1 : Int) := of_decide_eq_true (by first | (with_reducible assumption) | assumption)
                    have q128 : x14_1 < (t124.length : Int) := of_decide_eq_true (by first | (with_reducible assumption) | assumption)
                    obtain ⟨ad128, e128, hx128_0, hx128_1⟩ := at_T33 (Kd.R_reads' HO_12.out).2.2 x14_1 p128 q128
                    cases e128
                    replace p128 := eq_true p128
                    replace q128 := eq_true q128
                    try go_wp2_with (first | ((with_reducible refine gate_dst (N := 6) rfl ?_); refine box_event ?hg (N := 6) ?hd (cs := #[.int .i64 0, .int .i64 0]) (t := 33) ?hr ?_; (case hd => rfl); (case hg => rfl); (case hr => first | (go_simp; done) | (go_simp; rfl)); intro gb129 hg w22 hbox hb; have n0_ := Aside0.mk (Kd.R_below (by (with_reducible repeat (first | apply Kd.R_alloc | apply Kd.R_drewN | apply Kd.R_drew)); exact HO_2.out) hb); have n1_ := Aside0.mk (Kd.R_below (Kd.R_elderB (by (with_reducible repeat (first | apply Kd.R_alloc | apply Kd.R_drewN | apply Kd.R_drew)); exact HO_12.out) gb129 (Nat.le_of_eq hg.symm)) hb); have n2_ := Aside0.mk (Kd.R_below (Kd.R_elderB (by (with_reducible repeat (first | apply Kd.R_alloc | apply Kd.R_drewN | apply Kd.R_drew)); exact HO_128000.out) gb129 (Nat.le_of_eq hg.symm)) hb); have n3_ := Aside0.mk (blk_below (g := gb123) (o := .cells #[.string a0] 9 (0, 0)) (by (with_reducible repeat (first | refine blk_drewN ?_ _ | refine blk_drew ?_ | refine blk_alloc ?_ _)); exact BK123.out) hb); have n4_ := Aside0.mk (blk_below (g := gb127) (o := .cells #[.slice (some ad128) t124.length co7] 28 (0, 0)) (by (with_reducible repeat (first | refine blk_drewN ?_ _ | refine blk_drew ?_ | refine blk_alloc ?_ _)); exact BK127.out) hb); have n5_ := Aside0.mk (below_step (by repeat (first | (with_reducible first | exact HB.out | apply below_alloc | apply pw_below_drewN | apply below_drew1 | refine below_set ?_ GE123.out | refine below_set ?_ GE127.out) | exact HB.out)) hb); have n6_ := Aside0.mk (hbox); have n7_ := Aside0.mk ((by rw [hg]; exact (below_size (by repeat (first | (with_reducible first | exact HB.out | apply below_alloc | apply pw_below_drewN | apply below_drew1 | refine below_set ?_ GE123.out | refine below_set ?_ GE127.out) | exact HB.out))) : w.heap.size ≤ gb129)); have n8_ := Aside0.mk ((by rw [hg]; exact (below_size (by repeat (first | (with_reducible first | exact HB.out | apply below_alloc | apply pw_below_drewN | apply below_drew1 | refine below_set ?_ GE123.out | refine below_set ?_ GE127.out) | exact HB.out))) : w.heap.size ≤ gb129)); have n9_ := Aside0.mk ((by rw [hg]; exact Nat.ne_of_lt (blk_lt (g := gb123) (o := .cells #[.string a0] 9 (0, 0)) (by (with_reducible repeat (first | refine blk_drewN ?_ _ | refine blk_drew ?_ | refine blk_alloc ?_ _)); exact BK123.out)) : gb123 ≠ gb129)); have n10_ := Aside0.mk ((by rw [hg]; exact Nat.ne_of_gt (blk_lt (g := gb123) (o := .cells #[.string a0] 9 (0, 0)) (by (with_reducible repeat (first | refine blk_drewN ?_ _ | refine blk_drew ?_ | refine blk_alloc ?_ _)); exact BK123.out)) : gb129 ≠ gb123)); have n11_ := Aside0.mk ((by rw [hg]; exact Nat.ne_of_lt (blk_lt (g := gb127) (o := .cells #[.slice (some ad128) t124.length co7] 28 (0, 0)) (by (with_reducible repeat (first | refine blk_drewN ?_ _ | refine blk_drew ?_ | refine blk_alloc ?_ _)); exact BK127.out)) : gb127 ≠ gb129)); have n12_ := Aside0.mk ((by rw [hg]; exact Nat.ne_of_gt (blk_lt (g := gb127) (o := .cells #[.slice (some ad128) t124.length co7] 28 (0, 0)) (by (with_reducible repeat (first | refine blk_drewN ?_ _ | refine blk_drew ?_ | refine blk_alloc ?_ _)); exact BK127.out)) : gb129 ≠ gb127)); clear HO_2; clear HO_12; clear HO_128000; clear BK123; clear BK127; clear HB; have HO_2 := n0_; have HO_12 := n1_; have HO_128000 := n2_; have BK123 := n3_; have BK127 := n4_; have HB := n5_; have BK129 := n6_; have GW129 := n7_; have GE129 := n8_; have NB123_129 := n9_; have NB129_123 := n10_; have NB127_129 := n11_; have NB129_127 := n12_; clear n0_ n1_ n2_ n3_ n4_ n5_ n6_ n7_ n8_ n9_ n10_ n11_ n12_; clear hb hbox hg; have hnb23 := NB129_123.out; have hnc23 := NB123_129.out; have hnb24 := NB129_127.out; have hnc24 := NB127_129.out; have hcz25_0 : w22.cell? ⟨gb129, 0, none⟩ = some (.int .i64 0) := (blk_cell BK129.out 0).trans rfl; have hcz25_1 : w22.cell? ⟨gb129, 1, none⟩ = some (.int .i64 0) := (blk_cell BK129.out 1).trans rfl; have hfz25_0 := blk_frozen BK129.out 0; have hfz25_1 := blk_frozen BK129.out 1))
                    have n0_ : Aside0 (Kd.R (Kd.int .i64) 3 ((w22.setCell ⟨gb129, 0, none⟩ (.int .i64 ((rd_T33 t124 x14_1).f0))).setCell ⟨gb129, 1, none⟩ (.int .i64 ((rd_T33 t124 x14_1).f1))) w.heap.size (fun _ => True) u2 x2_1) := ⟨by (with_reducible repeat (first | apply Kd.R_alloc | apply Kd.R_drewN | apply Kd.R_drew)); exact Kd.R_mono (Kd.R_far (p := ⟨gb129, 1, none⟩) (Kd.R_far (p := ⟨gb129, 0, none⟩) (Kd.R_types HO_2.out BK129.out (by decide)) (fun _ hk => hk.2) (.int .i64 ((rd_T33 t124 x14_1).f0))) (fun _ hk => hk.2) (.int .i64 ((rd_T33 t124 x14_1).f1))) (fun _ hk => trivial)⟩
                    have n1_ : Aside0 (Kd.R k33 33 ((w22.setCell ⟨gb129, 0, none⟩ (.int .i64 ((rd_T33 t124 x14_1).f0))).setCell ⟨gb129, 1, none⟩ (.int .i64 ((rd_T33 t124 x14_1).f1))) w.heap.size (fun k_ => k_ ≠ gb129) (.slice (some ad128) t124.length co7) t124) := ⟨by (with_reducible repeat (first | apply Kd.R_alloc | apply Kd.R_drewN | apply Kd.R_drew)); exact Kd.R_mono (Kd.R_far (p := ⟨gb129, 1, none⟩) (Kd.R_far (p := ⟨gb129, 0, none⟩) (Kd.R_mono HO_12.out (fun k_ hk => (⟨hk, hk.2⟩ : _ ∧ k_ ≠ gb129))) (fun _ hk => hk.2) (.int .i64 ((rd_T33 t124 x14_1).f0))) (fun _ hk => hk.2) (.int .i64 ((rd_T33 t124 x14_1).f1))) (fun _ hk => hk.1.2)⟩
                    have n2_ : Aside0 (Kd.R k33 33 ((w22.setCell ⟨gb129, 0, none⟩ (.int .i64 ((rd_T33 t124 x14_1).f0))).setCell ⟨gb129, 1, none⟩ (.int .i64 ((rd_T33 t124 x14_1).f1))) w.heap.size (fun k_ => k_ ≠ gb129) (.slice (some ad128) t124.length co7) t124) := ⟨by (with_reducible repeat (first | apply Kd.R_alloc | apply Kd.R_drewN | apply Kd.R_drew)); exact Kd.R_mono (Kd.R_far (p := ⟨gb129, 1, none⟩) (Kd.R_far (p := ⟨gb129, 0, none⟩) (Kd.R_mono HO_128000.out (fun k_ hk => (⟨hk, hk.2⟩ : _ ∧ k_ ≠ gb129))) (fun _ hk => hk.2) (.int .i64 ((rd_T33 t124 x14_1).f0))) (fun _ hk => hk.2) (.int .i64 ((rd_T33 t124 x14_1).f1))) (fun _ hk => hk.1.2)⟩
                    have n3_ : Aside0 (((w22.setCell ⟨gb129, 0, none⟩ (.int .i64 ((rd_T33 t124 x14_1).f0))).setCell ⟨gb129, 1, none⟩ (.int .i64 ((rd_T33 t124 x14_1).f1))).heap[gb123]? = some (.cells #[.string a0] 9 (0, 0))) := ⟨by (with_reducible repeat (first | refine blk_drewN ?_ _ | refine blk_drew ?_ | refine blk_alloc ?_ _)); refine blk_far ?_ NB123_129.out _; (with_reducible repeat (first | refine blk_drewN ?_ _ | refine blk_drew ?_ | refine blk_alloc ?_ _)); refine blk_far ?_ NB123_129.out _; (with_reducible repeat (first | refine blk_drewN ?_ _ | refine blk_drew ?_ | refine blk_alloc ?_ _)); exact BK123.out⟩
                    have n4_ : Aside0 (((w22.setCell ⟨gb129, 0, none⟩ (.int .i64 ((rd_T33 t124 x14_1).f0))).setCell ⟨gb129, 1, none⟩ (.int .i64 ((rd_T33 t124 x14_1).f1))).heap[gb127]? = some (.cells #[.slice (some ad128) t124.length co7] 28 (0, 0))) := ⟨by (with_reducible repeat (first | refine blk_drewN ?_ _ | refine blk_drew ?_ | refine blk_alloc ?_ _)); refine blk_far ?_ NB127_129.out _; (with_reducible repeat (first | refine blk_drewN ?_ _ | refine blk_drew ?_ | refine blk_alloc ?_ _)); refine blk_far ?_ NB127_129.out _; (with_reducible repeat (first | refine blk_drewN ?_ _ | refine blk_drew ?_ | refine blk_alloc ?_ _)); exact BK127.out⟩
                    have n5_ : Aside0 (((w22.setCell ⟨gb129, 0, none⟩ (.int .i64 ((rd_T33 t124 x14_1).f0))).setCell ⟨gb129, 1, none⟩ (.int .i64 ((rd_T33 t124 x14_1).f1))).heap[gb129]? = some (.cells #[.int .i64 ((rd_T33 t124 x14_1).f0), .int .i64 ((rd_T33 t124 x14_1).f1)] 33 (0, 0))) := ⟨by (with_reducible repeat (first | refine blk_drewN ?_ _ | refine blk_drew ?_ | refine blk_alloc ?_ _)); refine blk_put (cs := #[.int .i64 ((rd_T33 t124 x14_1).f0), .int .i64 0]) ?_ 1 _ rfl; (with_reducible repeat (first | refine blk_drewN ?_ _ | refine blk_drew ?_ | refine blk_alloc ?_ _)); refine blk_put (cs := #[.int .i64 0, .int .i64 0]) ?_ 0 _ rfl; (with_reducible repeat (first | refine blk_drewN ?_ _ | refine blk_drew ?_ | refine blk_alloc ?_ _)); exact BK129.out⟩
                    have n6_ : Aside0 (Below w.heap.size w ((w22.setCell ⟨gb129, 0, none⟩ (.int .i64 ((rd_T33 t124 x14_1).f0))).setCell ⟨gb129, 1, none⟩ (.int .i64 ((rd_T33 t124 x14_1).f1)))) := ⟨by repeat (first | (with_reducible first | exact HB.out | apply below_alloc | apply pw_below_drewN | apply below_drew1 | refine below_set ?_ GE123.out | refine below_set ?_ GE127.out | refine below_set ?_ GE129.out) | exact HB.out)⟩
                    (try clear HO_2)
                    (try clear HO_12)
                    (try clear HO_128000)
                    (try clear BK123)
                    (try clear BK127)
                    (try clear BK129)
                    (try clear HB)
                    generalize ((w22.setCell ⟨gb129, 0, none⟩ (.int .i64 ((rd_T33 t124 x14_1).f0))).setCell ⟨gb129, 1, none⟩ (.int .i64 ((rd_T33 t124 x14_1).f1))) = w26 at n0_ n1_ n2_ n3_ n4_ n5_ n6_ ⊢
                    have HO_2 := n0_
                    have HO_12 := n1_
                    have HO_128000 := n2_
                    have BK123 := n3_
                    have BK127 := n4_
                    have BK129 := n5_
                    have HB := n6_
                    clear n0_ n1_ n2_ n3_ n4_ n5_ n6_
                    have n0_ := Aside0.mk (Kd.R_drew HO_2.out)
                    have n1_ := Aside0.mk (Kd.R_drew HO_12.out)
                    have n2_ := Aside0.mk (Kd.R_drew HO_128000.out)
                    have n3_ := Aside0.mk (blk_drew BK123.out)
                    have n4_ := Aside0.mk (blk_drew BK127.out)
                    have n5_ := Aside0.mk (blk_drew BK129.out)
                    have n6_ := Aside0.mk (below_drew1 HB.out)
                    clear HO_2
                    clear HO_12
                    clear HO_128000
                    clear BK123
                    clear BK127
                    clear BK129
                    clear HB
                    have HO_2 := n0_
                    have HO_12 := n1_
                    have HO_128000 := n2_
                    have BK123 := n3_
                    have BK127 := n4_
                    have BK129 := n5_
                    have HB := n6_
                    clear n0_ n1_ n2_ n3_ n4_ n5_ n6_
                    have p18 : 0 ≤ ((ji15) : Int) := of_decide_eq_true (by first | (with_reducible assumption) | assumption)
                    have q18 : (ji15) < (a0.size : Int) := of_decide_eq_true (by first | (with_reducible assumption) | assumption)
                    have hx18 := bt_at a0 (ji15)
                    replace p18 := eq_true p18
                    replace q18 := eq_true q18
                    refine start_ (n := 13) (S := fun w' => w'.cell? ⟨gb123, 0, none⟩ = some (.string a0) ∧ w'.cell? ⟨gb129, 0, none⟩ = some (.int .i64 ((rd_T33 t124 x14_1).f0)) ∧ w'.cell? ⟨gb129, 1, none⟩ = some (.int .i64 ((rd_T33 t124 x14_1).f1))) (ds := []) #[false, false, false, false, false, false, false, false, false, false, false, false, false] (by kernel_rfl) rfl rfl ⟨(blk_cell BK123.out 0).trans rfl, (blk_cell BK129.out 0).trans rfl, (blk_cell BK129.out 1).trans rfl⟩ (fun hHeld => ?_); refine with_tabW breaks_May.tab6 breaks_May.bits6 (fun HT_ HW_ => ?_)
                    generalize w26.drew = w27 at HO_2 HO_12 HO_128000 BK123 BK127 BK129 HB hHeld ⊢
                    refine pure_ (i := 0) (N := some 19) (v := ?_) (a' := ?_) #[true, false, false, false, false, false, false, false, false, false, false, false, false] rfl rfl (any_of HT_.out (by kernel_rfl)) (fun _ _ _ h => h) (Or.inl ⟨by rfl, ?_⟩) ?_ ?_
                    rotate_left
                    · intro w'
                      go_simp
                      with_reducible rfl
                    rotate_left
                    · simp only [Act.put, List.setIfInBounds_toArray, List.set_cons_zero, List.set_cons_succ, i64_w, i32_w]
                      rfl
                    refine pure_ (i := 1) (N := some 20) (v := ?_) (a' := ?_) #[true, true, false, false, false, false, false, false, false, false, false, false, false] rfl rfl (any_of HT_.out (by kernel_rfl)) (fun _ _ _ h => h) (Or.inl ⟨by rfl, ?_⟩) ?_ ?_
                    rotate_left
                    · intro w'
                      go_simp
                      with_reducible rfl
                    rotate_left
                    · simp only [Act.put, List.setIfInBounds_toArray, List.set_cons_zero, List.set_cons_succ, i64_w, i32_w]
                      rfl
                    refine pure_ (i := 5) (N := some 24) (v := ?_) (a' := ?_) #[true, true, false, false, false, true, false, false, false, false, false, false, false] rfl rfl (any_of HT_.out (by kernel_rfl)) (fun _ _ _ h => h) (Or.inl ⟨by rfl, ?_⟩) ?_ ?_
                    rotate_left
                    · intro w'
                      go_simp
                      with_reducible rfl
                    rotate_left
                    · simp only [Act.put, List.setIfInBounds_toArray, List.set_cons_zero, List.set_cons_succ, i64_w, i32_w]
                      rfl
                    refine take_ (i := 4) (N := some 23) (v := ?_) (a' := ?_) #[true, true, false, false, true, true, false, false, false, false, false, false, false] rfl rfl (take_ofW HT_.out HW_.out (by kernel_rfl)) (fun _ _ _ h => h) (Or.inl ⟨by rfl, ?_⟩) hHeld ?_ ?_
                    rotate_left
                    · rintro w' ⟨s0, s1, s2⟩
                      go_simp
                      with_reducible rfl
                    rotate_left
                    · simp only [Act.put, List.setIfInBounds_toArray, List.set_cons_zero, List.set_cons_succ, i64_w, i32_w]
                      rfl
                    refine take_ (i := 6) (N := some 25) (v := ?_) (a' := ?_) #[true, true, false, false, true, true, true, false, false, false, false, false, false] rfl rfl (take_ofW HT_.out HW_.out (by kernel_rfl)) (fun _ _ _ h => h) (Or.inl ⟨by rfl, ?_⟩) hHeld ?_ ?_
                    rotate_left
                    · rintro w' ⟨s0, s1, s2⟩
                      go_simp
                      with_reducible rfl
                    rotate_left
                    · simp only [Act.put, List.setIfInBounds_toArray, List.set_cons_zero, List.set_cons_succ, i64_w, i32_w]
                      rfl
                    refine pure_ (i := 7) (N := some 26) (v := ?_) (a' := ?_) #[true, true, false, false, true, true, true, true, false, false, false, false, false] rfl rfl (any_of HT_.out (by kernel_rfl)) (fun _ _ _ h => h) (Or.inl ⟨by rfl, ?_⟩) ?_ ?_
                    rotate_left
                    · intro w'
                      go_simp
                      with_reducible rfl
                    rotate_left
                    · simp only [Act.put, List.setIfInBounds_toArray, List.set_cons_zero, List.set_cons_succ, i64_w, i32_w]
                      rfl
                    refine take_ (i := 8) (N := some 27) (v := ?_) (a' := ?_) #[true, true, false, false, true, true, true, true, true, false, false, false, false] rfl rfl (take_ofW HT_.out HW_.out (by kernel_rfl)) (fun _ _ _ h => h) (Or.inl ⟨by rfl, ?_⟩) hHeld ?_ ?_
                    rotate_left
                    · rintro w' ⟨s0, s1, s2⟩
                      go_simp
                      with_reducible rfl
                    rotate_left
                    · simp only [Act.put, List.setIfInBounds_toArray, List.set_cons_zero, List.set_cons_succ, i64_w, i32_w]
                      rfl
                    refine pure_ (i := 9) (N := some 28) (v := ?_) (a' := ?_) #[true, true, false, false, true, true, true, true, true, true, false, false, false] rfl rfl (any_of HT_.out (by kernel_rfl)) (fun _ _ _ h => h) (Or.inl ⟨by rfl, ?_⟩) ?_ ?_
                    rotate_left
                    · intro w'
                      go_simp
                      with_reducible rfl
                    rotate_left
                    · simp only [Act.put, List.setIfInBounds_toArray, List.set_cons_zero, List.set_cons_succ, i64_w, i32_w]
                      rfl
                    refine one_ (i := 2) (N := some 21) #[true, true, true, false, true, true, true, true, true, true, false, false, false] rfl rfl (one_of HT_.out (by kernel_rfl)) (by decide) (fun K hK => ?_)
                    refine goesv_ Try.func24 (by kernel_rfl) rfl #[.int .i64 x14_1, .pointer (some ⟨gb123, 0, none⟩), .pointer (some ⟨gb127, 0, none⟩)] (by rfl) rfl rfl (by rfl) (by (try simp only [List.map_toArray, List.map_cons, List.map_nil]); first | done | rfl | (simp only [List.length_drop, List.length_take]; rfl)) ?_
                    with_reducible refine (breaks_May_1.calls k1 x14_1 a0 (some ad128) co7 t124 t130 _ ?side1 ?side2 ?side3 ?side4 ?side5 A13.out).mono ?_
                    (case side1 => repeat (first | exact (Kd.R_reads' HO_128000.out).2.2 | (with_reducible refine Kd.C_alloc ?_ _) | (with_reducible refine Kd.C_drewN ?_ _) | (with_reducible refine Kd.C_drew ?_)))
                    (case side2 => exact (Kd.R_reads' HO_128000.out).2.1)
                    (case side3 => exact (show _ from by (with_reducible repeat (first | refine blk_drewN ?_ _ | refine blk_drew ?_ | refine blk_alloc ?_ _)); exact BK123.out))
                    (case side4 => exact (show _ from by (with_reducible repeat (first | refine blk_drewN ?_ _ | refine blk_drew ?_ | refine blk_alloc ?_ _)); exact BK127.out))
                    (case side5 => exact NB123_127.out)
                    rintro e w28 ⟨rfl, hb⟩
                    refine ⟨_, rfl, ?_⟩
                    have n0_ := Aside0.mk (Kd.R_below (by (with_reducible repeat (first | apply Kd.R_alloc | apply Kd.R_drewN | apply Kd.R_drew)); exact HO_2.out) hb)
                    have n1_ := Aside0.mk (Kd.R_below (by (with_reducible repeat (first | apply Kd.R_alloc | apply Kd.R_drewN | apply Kd.R_drew)); exact HO_12.out) hb)
                    have n2_ := Aside0.mk (Kd.R_below (by (with_reducible repeat (first | apply Kd.R_alloc | apply Kd.R_drewN | apply Kd.R_drew)); exact HO_128000.out) hb)
                    have n3_ := Aside0.mk (blk_below (g := gb123) (o := .cells #[.string a0] 9 (0, 0)) (by (with_reducible repeat (first | refine blk_drewN ?_ _ | refine blk_drew ?_ | refine blk_alloc ?_ _)); exact BK123.out) hb)
                    have n4_ := Aside0.mk (blk_below (g := gb127) (o := .cells #[.slice (some ad128) t124.length co7] 28 (0, 0)) (by (with_reducible repeat (first | refine blk_drewN ?_ _ | refine blk_drew ?_ | refine blk_alloc ?_ _)); exact BK127.out) hb)
                    have n5_ := Aside0.mk (blk_below (g := gb129) (o := .cells #[.int .i64 ((rd_T33 t124 x14_1).f0), .int .i64 ((rd_T33 t124 x14_1).f1)] 33 (0, 0)) (by (with_reducible repeat (first | refine blk_drewN ?_ _ | refine blk_drew ?_ | refine blk_alloc ?_ _)); exact BK129.out) hb)
                    have n6_ := Aside0.mk (below_step (by repeat (first | (with_reducible first | exact HB.out | apply below_alloc | apply pw_below_drewN | apply below_drew1 | refine below_set ?_ GE123.out | refine below_set ?_ GE127.out | refine below_set ?_ GE129.out) | exact HB.out)) hb)
                    clear HO_2
                    clear HO_12
                    clear HO_128000
                    clear BK123
                    clear BK127
                    clear BK129
                    clear HB
                    have HO_2 := n0_
                    have HO_12 := n1_
                    have HO_128000 := n2_
                    have BK123 := n3_
                    have BK127 := n4_
                    have BK129 := n5_
                    have HB := n6_
                    clear n0_ n1_ n2_ n3_ n4_ n5_ n6_
                    (try clear hb)
                    (try clear hb2)
                    (try clear hk)
                    (try clear hi)
                    refine hK.out _ _ ⟨(blk_cell BK123.out 0).trans rfl, (blk_cell BK129.out 0).trans rfl, (blk_cell BK129.out 1).trans rfl⟩ (fun hHeld => ?_)
                    clear hK K
                    refine norm_ (a' := ?_) ?_ ?_
                    rotate_left
                    · show Act.put _ (some 21) _ = _
                      simp only [Act.put, List.setIfInBounds_toArray, List.set_cons_zero, List.set_cons_succ, i64_w, i32_w]
                      rfl
                    refine one_ (i := 3) (N := some 22) #[true, true, true, true, true, true, true, true, true, true, false, false, false] rfl rfl (one_of HT_.out (by kernel_rfl)) (by decide) (fun K hK => ?_)
                    refine goes_ Try.func15 (by kernel_rfl) rfl #[.int .i64 t130] (by rfl) rfl rfl (by (try simp only [List.map_toArray, List.map_cons, List.map_nil]); first | done | rfl | (simp only [List.length_drop, List.length_take]; rfl)) ?_
                    with_reducible refine (chars_Class.calls k1 t130 t131 _ A14.out).mono ?_
                    rintro e w29 ⟨rfl, hb⟩
                    refine ⟨_, rfl, ?_⟩
                    have n0_ := Aside0.mk (Kd.R_below (by (with_reducible repeat (first | apply Kd.R_alloc | apply Kd.R_drewN | apply Kd.R_drew)); exact HO_2.out) hb)
                    have n1_ := Aside0.mk (Kd.R_below (by (with_reducible repeat (first | apply Kd.R_alloc | apply Kd.R_drewN | apply Kd.R_drew)); exact HO_12.out) hb)
                    have n2_ := Aside0.mk (Kd.R_below (by (with_reducible repeat (first | apply Kd.R_alloc | apply Kd.R_drewN | apply Kd.R_drew)); exact HO_128000.out) hb)
                    have n3_ := Aside0.mk (blk_below (g := gb123) (o := .cells #[.string a0] 9 (0, 0)) (by (with_reducible repeat (first | refine blk_drewN ?_ _ | refine blk_drew ?_ | refine blk_alloc ?_ _)); exact BK123.out) hb)
                    have n4_ := Aside0.mk (blk_below (g := gb127) (o := .cells #[.slice (some ad128) t124.length co7] 28 (0, 0)) (by (with_reducible repeat (first | refine blk_drewN ?_ _ | refine blk_drew ?_ | refine blk_alloc ?_ _)); exact BK127.out) hb)
                    have n5_ := Aside0.mk (blk_below (g := gb129) (o := .cells #[.int .i64 ((rd_T33 t124 x14_1).f0), .int .i64 ((rd_T33 t124 x14_1).f1)] 33 (0, 0)) (by (with_reducible repeat (first | refine blk_drewN ?_ _ | refine blk_drew ?_ | refine blk_alloc ?_ _)); exact BK129.out) hb)
                    have n6_ := Aside0.mk (below_step (by repeat (first | (with_reducible first | exact HB.out | apply below_alloc | apply pw_below_drewN | apply below_drew1 | refine below_set ?_ GE123.out | refine below_set ?_ GE127.out | refine below_set ?_ GE129.out) | exact HB.out)) hb)
                    clear HO_2
                    clear HO_12
                    clear HO_128000
                    clear BK123
                    clear BK127
                    clear BK129
                    clear HB
                    have HO_2 := n0_
                    have HO_12 := n1_
                    have HO_128000 := n2_
                    have BK123 := n3_
                    have BK127 := n4_
                    have BK129 := n5_
                    have HB := n6_
                    clear n0_ n1_ n2_ n3_ n4_ n5_ n6_
                    (try clear hb)
                    (try clear hb2)
                    (try clear hk)
                    (try clear hi)
                    refine hK.out _ _ ⟨(blk_cell BK123.out 0).trans rfl, (blk_cell BK129.out 0).trans rfl, (blk_cell BK129.out 1).trans rfl⟩ (fun hHeld => ?_)
                    clear hK K
                    refine norm_ (a' := ?_) ?_ ?_
                    rotate_left
                    · show Act.put _ (some 22) _ = _
                      simp only [Act.put, List.setIfInBounds_toArray, List.set_cons_zero, List.set_cons_succ, i64_w, i32_w]
                      rfl
                    refine one_ (i := 10) (N := some 29) #[true, true, true, true, true, true, true, true, true, true, true, false, false] rfl rfl (one_of HT_.out (by kernel_rfl)) (by decide) (fun K hK => ?_)
                    refine goes_ Try.func15 (by kernel_rfl) rfl #[.int .i64 (wrap64 (bt a0 (ji15)))] (by rfl) rfl rfl (by (try simp only [List.map_toArray, List.map_cons, List.map_nil]); first | done | (simp only [hji15]; rfl) | rfl | (simp only [List.length_drop, List.length_take]; rfl)) ?_
                    with_reducible refine (chars_Class.calls k1 (wrap64 (bt a0 (ji15))) t132 _ A19.out).mono ?_
                    rintro e w30 ⟨rfl, hb⟩
                    refine ⟨_, rfl, ?_⟩
                    have n0_ := Aside0.mk (Kd.R_below (by (with_reducible repeat (first | apply Kd.R_alloc | apply Kd.R_drewN | apply Kd.R_drew)); exact HO_2.out) hb)
                    have n1_ := Aside0.mk (Kd.R_below (by (with_reducible repeat (first | apply Kd.R_alloc | apply Kd.R_drewN | apply Kd.R_drew)); exact HO_12.out) hb)
                    have n2_ := Aside0.mk (Kd.R_below (by (with_reducible repeat (first | apply Kd.R_alloc | apply Kd.R_drewN | apply Kd.R_drew)); exact HO_128000.out) hb)
                    have n3_ := Aside0.mk (blk_below (g := gb123) (o := .cells #[.string a0] 9 (0, 0)) (by (with_reducible repeat (first | refine blk_drewN ?_ _ | refine blk_drew ?_ | refine blk_alloc ?_ _)); exact BK123.out) hb)
                    have n4_ := Aside0.mk (blk_below (g := gb127) (o := .cells #[.slice (some ad128) t124.length co7] 28 (0, 0)) (by (with_reducible repeat (first | refine blk_drewN ?_ _ | refine blk_drew ?_ | refine blk_alloc ?_ _)); exact BK127.out) hb)
                    have n5_ := Aside0.mk (blk_below (g := gb129) (o := .cells #[.int .i64 ((rd_T33 t124 x14_1).f0), .int .i64 ((rd_T33 t124 x14_1).f1)] 33 (0, 0)) (by (with_reducible repeat (first | refine blk_drewN ?_ _ | refine blk_drew ?_ | refine blk_alloc ?_ _)); exact BK129.out) hb)
                    have n6_ := Aside0.mk (below_step (by repeat (first | (with_reducible first | exact HB.out | apply below_alloc | apply pw_below_drewN | apply below_drew1 | refine below_set ?_ GE123.out | refine below_set ?_ GE127.out | refine below_set ?_ GE129.out) | exact HB.out)) hb)
                    clear HO_2
                    clear HO_12
                    clear HO_128000
                    clear BK123
                    clear BK127
                    clear BK129
                    clear HB
                    have HO_2 := n0_
                    have HO_12 := n1_
                    have HO_128000 := n2_
                    have BK123 := n3_
                    have BK127 := n4_
                    have BK129 := n5_
                    have HB := n6_
                    clear n0_ n1_ n2_ n3_ n4_ n5_ n6_
                    (try clear hb)
                    (try clear hb2)
                    (try clear hk)
                    (try clear hi)
                    refine hK.out _ _ ⟨(blk_cell BK123.out 0).trans rfl, (blk_cell BK129.out 0).trans rfl, (blk_cell BK129.out 1).trans rfl⟩ (fun hHeld => ?_)
                    clear hK K
                    refine norm_ (a' := ?_) ?_ ?_
                    rotate_left
                    · show Act.put _ (some 29) _ = _
                      simp only [Act.put, List.setIfInBounds_toArray, List.set_cons_zero, List.set_cons_succ, i64_w, i32_w]
                      rfl
                    refine pure_ (i := 11) (N := some 7) (v := ?_) (a' := ?_) #[true, true, true, true, true, true, true, true, true, true, true, true, false] rfl rfl (any_of HT_.out (by kernel_rfl)) (fun _ _ _ h => h) (Or.inl ⟨by rfl, ?_⟩) ?_ ?_
                    rotate_left
                    · intro w'
                      go_simp
                      with_reducible rfl
                    rotate_left
                    · simp only [Act.put, List.setIfInBounds_toArray, List.set_cons_zero, List.set_cons_succ, i64_w, i32_w]
                      rfl
                    refine pure_ (i := 12) (N := some 8) (v := ?_) (a' := ?_) #[true, true, true, true, true, true, true, true, true, true, true, true, true] rfl rfl (any_of HT_.out (by kernel_rfl)) (fun _ _ _ h => h) (Or.inl ⟨by rfl, ?_⟩) ?_ ?_
                    rotate_left
                    · intro w'
                      go_simp
                      with_reducible rfl
                    rotate_left
                    · simp only [Act.put, List.setIfInBounds_toArray, List.set_cons_zero, List.set_cons_succ, i64_w, i32_w]
                      rfl
                    refine done_ (done_of HT_.out (by kernel_rfl)) ?_
                    try go_wp2_with (first | ((with_reducible refine gate_builtin (b := .append) (xs := #[.tmp 36, .tmp 37]) rfl ?_); at_builtin; refine Kd.R_append (Kd.int .i64) (w0 := w) w.heap.size rfl (.tmp 36) (.tmp 37) 22 3 (.int .i64 0) 8 rfl Try.underlying22 info3 rfl (by decide) (by omega) u2 x2_1 2 [.int .i64 2] (fun _ => True) (fun _ => False) rfl rfl ?aP (fun _ hk => hk.elim) ?aF ?aO ?aB ?aS ?aL ?_; (case aP => exact rfl); (case aB => exact (by repeat (first | (with_reducible first | exact HB.out | apply below_alloc | apply pw_below_drewN | apply below_drew1 | refine below_set ?_ GE123.out | refine below_set ?_ GE127.out | refine below_set ?_ GE129.out) | exact HB.out))); (case aF => exact (fun _ _ => trivial)); (case aO => exact (by (with_reducible repeat (first | apply Kd.R_alloc | apply Kd.R_drewN | apply Kd.R_drew)); exact HO_2.out)); (case aS => exact (below_size (by repeat (first | (with_reducible first | exact HB.out | apply below_alloc | apply pw_below_drewN | apply below_drew1 | refine below_set ?_ GE123.out | refine below_set ?_ GE127.out | refine below_set ?_ GE129.out) | exact HB.out)))); (case aL => have := LMc21.out; omega); intro v134 w31 ho hb hg hat; rw [← Ny133.out] at ho; have n0_ := Aside0.mk (Kd.R_over' (by (with_reducible repeat (first | apply Kd.R_alloc | apply Kd.R_drewN | apply Kd.R_drew)); exact HO_12.out) (Kd.R_typed (by (with_reducible repeat (first | apply Kd.R_alloc | apply Kd.R_drewN | apply Kd.R_drew)); exact HO_2.out)) (by decide) hg); have n1_ := Aside0.mk (Kd.R_over' (by (with_reducible repeat (first | apply Kd.R_alloc | apply Kd.R_drewN | apply Kd.R_drew)); exact HO_128000.out) (Kd.R_typed (by (with_reducible repeat (first | apply Kd.R_alloc | apply Kd.R_drewN | apply Kd.R_drew)); exact HO_2.out)) (by decide) hg); have n2_ := Aside0.mk (blk_grown (g := gb123) (o := .cells #[.string a0] 9 (0, 0)) (by (with_reducible repeat (first | refine blk_drewN ?_ _ | refine blk_drew ?_ | refine blk_alloc ?_ _)); exact BK123.out) hg (Kd.R_ne HO_2.out BK123.out (by decide))); have n3_ := Aside0.mk (blk_grown (g := gb127) (o := .cells #[.slice (some ad128) t124.length co7] 28 (0, 0)) (by (with_reducible repeat (first | refine blk_drewN ?_ _ | refine blk_drew ?_ | refine blk_alloc ?_ _)); exact BK127.out) hg (Kd.R_ne HO_2.out BK127.out (by decide))); have n4_ := Aside0.mk (blk_grown (g := gb129) (o := .cells #[.int .i64 ((rd_T33 t124 x14_1).f0), .int .i64 ((rd_T33 t124 x14_1).f1)] 33 (0, 0)) (by (with_reducible repeat (first | refine blk_drewN ?_ _ | refine blk_drew ?_ | refine blk_alloc ?_ _)); exact BK129.out) hg (Kd.R_ne HO_2.out BK129.out (by decide))); have n5_ := Aside0.mk (hb); have n6_ := Aside0.mk (ho); clear HO_12; clear HO_128000; clear BK123; clear BK127; clear BK129; clear HB; clear HO_2; have HO_12 := n0_; have HO_128000 := n1_; have BK123 := n2_; have BK127 := n3_; have BK129 := n4_; have HB := n5_; have HO135 := n6_; clear n0_ n1_ n2_ n3_ n4_ n5_ n6_; clear ho hb hg hat))
                    go_roundg k1
                    case measure => have := HK1.out; omega
                    case rel => exact ⟨(y133), (wrap64 (x14_1 + 1)), (by first | rfl | (simp; done) | (simp [*]; done)), H', ⟨by have := HK1.out; omega⟩, ⟨by (with_reducible repeat (first | apply Kd.R_alloc | apply Kd.R_drewN | apply Kd.R_drew)); exact HO135.out⟩, ⟨by (with_reducible repeat (first | apply Kd.R_alloc | apply Kd.R_drewN | apply Kd.R_drew)); exact Kd.R_mono HO_12.out (fun _ hk => trivial)⟩, ⟨by (with_reducible repeat (first | apply Kd.R_alloc | apply Kd.R_drewN | apply Kd.R_drew)); exact Kd.R_mono HO_128000.out (fun _ hk => trivial)⟩, ⟨by (with_reducible repeat (first | refine blk_drewN ?_ _ | refine blk_drew ?_ | refine blk_alloc ?_ _)); exact BK123.out⟩, ⟨by (with_reducible repeat (first | refine blk_drewN ?_ _ | refine blk_drew ?_ | refine blk_alloc ?_ _)); exact BK127.out⟩, ⟨by repeat (first | (with_reducible first | exact HB.out | apply below_alloc | apply pw_below_drewN | apply below_drew1 | refine below_set ?_ GE123.out | refine below_set ?_ GE127.out | refine below_set ?_ GE129.out) | exact HB.out)⟩⟩
                  · rw [if_neg c21] at H
                    exact absurd H (by simp)
                · rw [if_neg c20] at H
                  have c20b0 : (t131 == 1) = false := beq_eq_false_iff_ne.mpr c20
                  have c20b1 : (t131 != 1) = true := bne_iff_ne.mpr c20
                  have HC32 := Aside0.mk H
                  clear H
                  have p128 : 0 ≤ (x14_1 : Int) := of_decide_eq_true (by first | (with_reducible assumption) | assumption)
                  have q128 : x14_1 < (t124.length : Int) := of_decide_eq_true (by first | (with_reducible assumption) | assumption)
                  obtain ⟨ad128, e128, hx128_0, hx128_1⟩ := at_T33 (Kd.R_reads' HO_12.out).2.2 x14_1 p128 q128
                  cases e128
                  replace p128 := eq_true p128
                  replace q128 := eq_true q128
                  try go_wp2_with (first | ((with_reducible refine gate_dst (N := 6) rfl ?_); refine box_event ?hg (N := 6) ?hd (cs := #[.int .i64 0, .int .i64 0]) (t := 33) ?hr ?_; (case hd => rfl); (case hg => rfl); (case hr => first | (go_simp; done) | (go_simp; rfl)); intro gb129 hg w33 hbox hb; have n0_ := Aside0.mk (Kd.R_below (by (with_reducible repeat (first | apply Kd.R_alloc | apply Kd.R_drewN | apply Kd.R_drew)); exact HO_2.out) hb); have n1_ := Aside0.mk (Kd.R_below (Kd.R_elderB (by (with_reducible repeat (first | apply Kd.R_alloc | apply Kd.R_drewN | apply Kd.R_drew)); exact HO_12.out) gb129 (Nat.le_of_eq hg.symm)) hb); have n2_ := Aside0.mk (Kd.R_below (Kd.R_elderB (by (with_reducible repeat (first | apply Kd.R_alloc | apply Kd.R_drewN | apply Kd.R_drew)); exact HO_128000.out) gb129 (Nat.le_of_eq hg.symm)) hb); have n3_ := Aside0.mk (blk_below (g := gb123) (o := .cells #[.string a0] 9 (0, 0)) (by (with_reducible repeat (first | refine blk_drewN ?_ _ | refine blk_drew ?_ | refine blk_alloc ?_ _)); exact BK123.out) hb); have n4_ := Aside0.mk (blk_below (g := gb127) (o := .cells #[.slice (some ad128) t124.length co7] 28 (0, 0)) (by (with_reducible repeat (first | refine blk_drewN ?_ _ | refine blk_drew ?_ | refine blk_alloc ?_ _)); exact BK127.out) hb); have n5_ := Aside0.mk (below_step (by repeat (first | (with_reducible first | exact HB.out | apply below_alloc | apply pw_below_drewN | apply below_drew1 | refine below_set ?_ GE123.out | refine below_set ?_ GE127.out) | exact HB.out)) hb); have n6_ := Aside0.mk (hbox); have n7_ := Aside0.mk ((by rw [hg]; exact (below_size (by repeat (first | (with_reducible first | exact HB.out | apply below_alloc | apply pw_below_drewN | apply below_drew1 | refine below_set ?_ GE123.out | refine below_set ?_ GE127.out) | exact HB.out))) : w.heap.size ≤ gb129)); have n8_ := Aside0.mk ((by rw [hg]; exact (below_size (by repeat (first | (with_reducible first | exact HB.out | apply below_alloc | apply pw_below_drewN | apply below_drew1 | refine below_set ?_ GE123.out | refine below_set ?_ GE127.out) | exact HB.out))) : w.heap.size ≤ gb129)); have n9_ := Aside0.mk ((by rw [hg]; exact Nat.ne_of_lt (blk_lt (g := gb123) (o := .cells #[.string a0] 9 (0, 0)) (by (with_reducible repeat (first | refine blk_drewN ?_ _ | refine blk_drew ?_ | refine blk_alloc ?_ _)); exact BK123.out)) : gb123 ≠ gb129)); have n10_ := Aside0.mk ((by rw [hg]; exact Nat.ne_of_gt (blk_lt (g := gb123) (o := .cells #[.string a0] 9 (0, 0)) (by (with_reducible repeat (first | refine blk_drewN ?_ _ | refine blk_drew ?_ | refine blk_alloc ?_ _)); exact BK123.out)) : gb129 ≠ gb123)); have n11_ := Aside0.mk ((by rw [hg]; exact Nat.ne_of_lt (blk_lt (g := gb127) (o := .cells #[.slice (some ad128) t124.length co7] 28 (0, 0)) (by (with_reducible repeat (first | refine blk_drewN ?_ _ | refine blk_drew ?_ | refine blk_alloc ?_ _)); exact BK127.out)) : gb127 ≠ gb129)); have n12_ := Aside0.mk ((by rw [hg]; exact Nat.ne_of_gt (blk_lt (g := gb127) (o := .cells #[.slice (some ad128) t124.length co7] 28 (0, 0)) (by (with_reducible repeat (first | refine blk_drewN ?_ _ | refine blk_drew ?_ | refine blk_alloc ?_ _)); exact BK127.out)) : gb129 ≠ gb127)); clear HO_2; clear HO_12; clear HO_128000; clear BK123; clear BK127; clear HB; have HO_2 := n0_; have HO_12 := n1_; have HO_128000 := n2_; have BK123 := n3_; have BK127 := n4_; have HB := n5_; have BK129 := n6_; have GW129 := n7_; have GE129 := n8_; have NB123_129 := n9_; have NB129_123 := n10_; have NB127_129 := n11_; have NB129_127 := n12_; clear n0_ n1_ n2_ n3_ n4_ n5_ n6_ n7_ n8_ n9_ n10_ n11_ n12_; clear hb hbox hg; have hnb34 := NB129_123.out; have hnc34 := NB123_129.out; have hnb35 := NB129_127.out; have hnc35 := NB127_129.out; have hcz36_0 : w33.cell? ⟨gb129, 0, none⟩ = some (.int .i64 0) := (blk_cell BK129.out 0).trans rfl; have hcz36_1 : w33.cell? ⟨gb129, 1, none⟩ = some (.int .i64 0) := (blk_cell BK129.out 1).trans rfl; have hfz36_0 := blk_frozen BK129.out 0; have hfz36_1 := blk_frozen BK129.out 1))
                  have n0_ : Aside0 (Kd.R (Kd.int .i64) 3 ((w33.setCell ⟨gb129, 0, none⟩ (.int .i64 ((rd_T33 t124 x14_1).f0))).setCell ⟨gb129, 1, none⟩ (.int .i64 ((rd_T33 t124 x14_1).f1))) w.heap.size (fun _ => True) u2 x2_1) := ⟨by (with_reducible repeat (first | apply Kd.R_alloc | apply Kd.R_drewN | apply Kd.R_drew)); exact Kd.R_mono (Kd.R_far (p := ⟨gb129, 1, none⟩) (Kd.R_far (p := ⟨gb129, 0, none⟩) (Kd.R_types HO_2.out BK129.out (by decide)) (fun _ hk => hk.2) (.int .i64 ((rd_T33 t124 x14_1).f0))) (fun _ hk => hk.2) (.int .i64 ((rd_T33 t124 x14_1).f1))) (fun _ hk => trivial)⟩
                  have n1_ : Aside0 (Kd.R k33 33 ((w33.setCell ⟨gb129, 0, none⟩ (.int .i64 ((rd_T33 t124 x14_1).f0))).setCell ⟨gb129, 1, none⟩ (.int .i64 ((rd_T33 t124 x14_1).f1))) w.heap.size (fun k_ => k_ ≠ gb129) (.slice (some ad128) t124.length co7) t124) := ⟨by (with_reducible repeat (first | apply Kd.R_alloc | apply Kd.R_drewN | apply Kd.R_drew)); exact Kd.R_mono (Kd.R_far (p := ⟨gb129, 1, none⟩) (Kd.R_far (p := ⟨gb129, 0, none⟩) (Kd.R_mono HO_12.out (fun k_ hk => (⟨hk, hk.2⟩ : _ ∧ k_ ≠ gb129))) (fun _ hk => hk.2) (.int .i64 ((rd_T33 t124 x14_1).f0))) (fun _ hk => hk.2) (.int .i64 ((rd_T33 t124 x14_1).f1))) (fun _ hk => hk.1.2)⟩
                  have n2_ : Aside0 (Kd.R k33 33 ((w33.setCell ⟨gb129, 0, none⟩ (.int .i64 ((rd_T33 t124 x14_1).f0))).setCell ⟨gb129, 1, none⟩ (.int .i64 ((rd_T33 t124 x14_1).f1))) w.heap.size (fun k_ => k_ ≠ gb129) (.slice (some ad128) t124.length co7) t124) := ⟨by (with_reducible repeat (first | apply Kd.R_alloc | apply Kd.R_drewN | apply Kd.R_drew)); exact Kd.R_mono (Kd.R_far (p := ⟨gb129, 1, none⟩) (Kd.R_far (p := ⟨gb129, 0, none⟩) (Kd.R_mono HO_128000.out (fun k_ hk => (⟨hk, hk.2⟩ : _ ∧ k_ ≠ gb129))) (fun _ hk => hk.2) (.int .i64 ((rd_T33 t124 x14_1).f0))) (fun _ hk => hk.2) (.int .i64 ((rd_T33 t124 x14_1).f1))) (fun _ hk => hk.1.2)⟩
                  have n3_ : Aside0 (((w33.setCell ⟨gb129, 0, none⟩ (.int .i64 ((rd_T33 t124 x14_1).f0))).setCell ⟨gb129, 1, none⟩ (.int .i64 ((rd_T33 t124 x14_1).f1))).heap[gb123]? = some (.cells #[.string a0] 9 (0, 0))) := ⟨by (with_reducible repeat (first | refine blk_drewN ?_ _ | refine blk_drew ?_ | refine blk_alloc ?_ _)); refine blk_far ?_ NB123_129.out _; (with_reducible repeat (first | refine blk_drewN ?_ _ | refine blk_drew ?_ | refine blk_alloc ?_ _)); refine blk_far ?_ NB123_129.out _; (with_reducible repeat (first | refine blk_drewN ?_ _ | refine blk_drew ?_ | refine blk_alloc ?_ _)); exact BK123.out⟩
                  have n4_ : Aside0 (((w33.setCell ⟨gb129, 0, none⟩ (.int .i64 ((rd_T33 t124 x14_1).f0))).setCell ⟨gb129, 1, none⟩ (.int .i64 ((rd_T33 t124 x14_1).f1))).heap[gb127]? = some (.cells #[.slice (some ad128) t124.length co7] 28 (0, 0))) := ⟨by (with_reducible repeat (first | refine blk_drewN ?_ _ | refine blk_drew ?_ | refine blk_alloc ?_ _)); refine blk_far ?_ NB127_129.out _; (with_reducible repeat (first | refine blk_drewN ?_ _ | refine blk_drew ?_ | refine blk_alloc ?_ _)); refine blk_far ?_ NB127_129.out _; (with_reducible repeat (first | refine blk_drewN ?_ _ | refine blk_drew ?_ | refine blk_alloc ?_ _)); exact BK127.out⟩
                  have n5_ : Aside0 (((w33.setCell ⟨gb129, 0, none⟩ (.int .i64 ((rd_T33 t124 x14_1).f0))).setCell ⟨gb129, 1, none⟩ (.int .i64 ((rd_T33 t124 x14_1).f1))).heap[gb129]? = some (.cells #[.int .i64 ((rd_T33 t124 x14_1).f0), .int .i64 ((rd_T33 t124 x14_1).f1)] 33 (0, 0))) := ⟨by (with_reducible repeat (first | refine blk_drewN ?_ _ | refine blk_drew ?_ | refine blk_alloc ?_ _)); refine blk_put (cs := #[.int .i64 ((rd_T33 t124 x14_1).f0), .int .i64 0]) ?_ 1 _ rfl; (with_reducible repeat (first | refine blk_drewN ?_ _ | refine blk_drew ?_ | refine blk_alloc ?_ _)); refine blk_put (cs := #[.int .i64 0, .int .i64 0]) ?_ 0 _ rfl; (with_reducible repeat (first | refine blk_drewN ?_ _ | refine blk_drew ?_ | refine blk_alloc ?_ _)); exact BK129.out⟩
                  have n6_ : Aside0 (Below w.heap.size w ((w33.setCell ⟨gb129, 0, none⟩ (.int .i64 ((rd_T33 t124 x14_1).f0))).setCell ⟨gb129, 1, none⟩ (.int .i64 ((rd_T33 t124 x14_1).f1)))) := ⟨by repeat (first | (with_reducible first | exact HB.out | apply below_alloc | apply pw_below_drewN | apply below_drew1 | refine below_set ?_ GE123.out | refine below_set ?_ GE127.out | refine below_set ?_ GE129.out) | exact HB.out)⟩
                  (try clear HO_2)
                  (try clear HO_12)
                  (try clear HO_128000)
                  (try clear BK123)
                  (try clear BK127)
                  (try clear BK129)
                  (try clear HB)
                  generalize ((w33.setCell ⟨gb129, 0, none⟩ (.int .i64 ((rd_T33 t124 x14_1).f0))).setCell ⟨gb129, 1, none⟩ (.int .i64 ((rd_T33 t124 x14_1).f1))) = w37 at n0_ n1_ n2_ n3_ n4_ n5_ n6_ ⊢
                  have HO_2 := n0_
                  have HO_12 := n1_
                  have HO_128000 := n2_
                  have BK123 := n3_
                  have BK127 := n4_
                  have BK129 := n5_
                  have HB := n6_
                  clear n0_ n1_ n2_ n3_ n4_ n5_ n6_
                  have n0_ := Aside0.mk (Kd.R_drew HO_2.out)
                  have n1_ := Aside0.mk (Kd.R_drew HO_12.out)
                  have n2_ := Aside0.mk (Kd.R_drew HO_128000.out)
                  have n3_ := Aside0.mk (blk_drew BK123.out)
                  have n4_ := Aside0.mk (blk_drew BK127.out)
                  have n5_ := Aside0.mk (blk_drew BK129.out)
                  have n6_ := Aside0.mk (below_drew1 HB.out)
                  clear HO_2
                  clear HO_12
                  clear HO_128000
                  clear BK123
                  clear BK127
                  clear BK129
                  clear HB
                  have HO_2 := n0_
                  have HO_12 := n1_
                  have HO_128000 := n2_
                  have BK123 := n3_
                  have BK127 := n4_
                  have BK129 := n5_
                  have HB := n6_
                  clear n0_ n1_ n2_ n3_ n4_ n5_ n6_
                  have p18 : 0 ≤ ((ji15) : Int) := of_decide_eq_true (by first | (with_reducible assumption) | assumption)
                  have q18 : (ji15) < (a0.size : Int) := of_decide_eq_true (by first | (with_reducible assumption) | assumption)
                  have hx18 := bt_at a0 (ji15)
                  replace p18 := eq_true p18
                  replace q18 := eq_true q18
                  refine start_ (n := 13) (S := fun w' => w'.cell? ⟨gb123, 0, none⟩ = some (.string a0) ∧ w'.cell? ⟨gb129, 0, none⟩ = some (.int .i64 ((rd_T33 t124 x14_1).f0)) ∧ w'.cell? ⟨gb129, 1, none⟩ = some (.int .i64 ((rd_T33 t124 x14_1).f1))) (ds := []) #[false, false, false, false, false, false, false, false, false, false, false, false, false] (by kernel_rfl) rfl rfl ⟨(blk_cell BK123.out 0).trans rfl, (blk_cell BK129.out 0).trans rfl, (blk_cell BK129.out 1).trans rfl⟩ (fun hHeld => ?_); refine with_tabW breaks_May.tab6 breaks_May.bits6 (fun HT_ HW_ => ?_)
                  generalize w37.drew = w38 at HO_2 HO_12 HO_128000 BK123 BK127 BK129 HB hHeld ⊢
                  refine pure_ (i := 0) (N := some 19) (v := ?_) (a' := ?_) #[true, false, false, false, false, false, false, false, false, false, false, false, false] rfl rfl (any_of HT_.out (by kernel_rfl)) (fun _ _ _ h => h) (Or.inl ⟨by rfl, ?_⟩) ?_ ?_
                  rotate_left
                  · intro w'
                    go_simp
                    with_reducible rfl
                  rotate_left
                  · simp only [Act.put, List.setIfInBounds_toArray, List.set_cons_zero, List.set_cons_succ, i64_w, i32_w]
                    rfl
                  refine pure_ (i := 1) (N := some 20) (v := ?_) (a' := ?_) #[true, true, false, false, false, false, false, false, false, false, false, false, false] rfl rfl (any_of HT_.out (by kernel_rfl)) (fun _ _ _ h => h) (Or.inl ⟨by rfl, ?_⟩) ?_ ?_
                  rotate_left
                  · intro w'
                    go_simp
                    with_reducible rfl
                  rotate_left
                  · simp only [Act.put, List.setIfInBounds_toArray, List.set_cons_zero, List.set_cons_succ, i64_w, i32_w]
                    rfl
                  refine pure_ (i := 5) (N := some 24) (v := ?_) (a' := ?_) #[true, true, false, false, false, true, false, false, false, false, false, false, false] rfl rfl (any_of HT_.out (by kernel_rfl)) (fun _ _ _ h => h) (Or.inl ⟨by rfl, ?_⟩) ?_ ?_
                  rotate_left
                  · intro w'
                    go_simp
                    with_reducible rfl
                  rotate_left
                  · simp only [Act.put, List.setIfInBounds_toArray, List.set_cons_zero, List.set_cons_succ, i64_w, i32_w]
                    rfl
                  refine take_ (i := 4) (N := some 23) (v := ?_) (a' := ?_) #[true, true, false, false, true, true, false, false, false, false, false, false, false] rfl rfl (take_ofW HT_.out HW_.out (by kernel_rfl)) (fun _ _ _ h => h) (Or.inl ⟨by rfl, ?_⟩) hHeld ?_ ?_
                  rotate_left
                  · rintro w' ⟨s0, s1, s2⟩
                    go_simp
                    with_reducible rfl
                  rotate_left
                  · simp only [Act.put, List.setIfInBounds_toArray, List.set_cons_zero, List.set_cons_succ, i64_w, i32_w]
                    rfl
                  refine take_ (i := 6) (N := some 25) (v := ?_) (a' := ?_) #[true, true, false, false, true, true, true, false, false, false, false, false, false] rfl rfl (take_ofW HT_.out HW_.out (by kernel_rfl)) (fun _ _ _ h => h) (Or.inl ⟨by rfl, ?_⟩) hHeld ?_ ?_
                  rotate_left
                  · rintro w' ⟨s0, s1, s2⟩
                    go_simp
                    with_reducible rfl
                  rotate_left
                  · simp only [Act.put, List.setIfInBounds_toArray, List.set_cons_zero, List.set_cons_succ, i64_w, i32_w]
                    rfl
                  refine pure_ (i := 7) (N := some 26) (v := ?_) (a' := ?_) #[true, true, false, false, true, true, true, true, false, false, false, false, false] rfl rfl (any_of HT_.out (by kernel_rfl)) (fun _ _ _ h => h) (Or.inl ⟨by rfl, ?_⟩) ?_ ?_
                  rotate_left
                  · intro w'
                    go_simp
                    with_reducible rfl
                  rotate_left
                  · simp only [Act.put, List.setIfInBounds_toArray, List.set_cons_zero, List.set_cons_succ, i64_w, i32_w]
                    rfl
                  refine take_ (i := 8) (N := some 27) (v := ?_) (a' := ?_) #[true, true, false, false, true, true, true, true, true, false, false, false, false] rfl rfl (take_ofW HT_.out HW_.out (by kernel_rfl)) (fun _ _ _ h => h) (Or.inl ⟨by rfl, ?_⟩) hHeld ?_ ?_
                  rotate_left
                  · rintro w' ⟨s0, s1, s2⟩
                    go_simp
                    with_reducible rfl
                  rotate_left
                  · simp only [Act.put, List.setIfInBounds_toArray, List.set_cons_zero, List.set_cons_succ, i64_w, i32_w]
                    rfl
                  refine pure_ (i := 9) (N := some 28) (v := ?_) (a' := ?_) #[true, true, false, false, true, true, true, true, true, true, false, false, false] rfl rfl (any_of HT_.out (by kernel_rfl)) (fun _ _ _ h => h) (Or.inl ⟨by rfl, ?_⟩) ?_ ?_
                  rotate_left
                  · intro w'
                    go_simp
                    with_reducible rfl
                  rotate_left
                  · simp only [Act.put, List.setIfInBounds_toArray, List.set_cons_zero, List.set_cons_succ, i64_w, i32_w]
                    rfl
                  refine one_ (i := 2) (N := some 21) #[true, true, true, false, true, true, true, true, true, true, false, false, false] rfl rfl (one_of HT_.out (by kernel_rfl)) (by decide) (fun K hK => ?_)
                  refine goesv_ Try.func24 (by kernel_rfl) rfl #[.int .i64 x14_1, .pointer (some ⟨gb123, 0, none⟩), .pointer (some ⟨gb127, 0, none⟩)] (by rfl) rfl rfl (by rfl) (by (try simp only [List.map_toArray, List.map_cons, List.map_nil]); first | done | rfl | (simp only [List.length_drop, List.length_take]; rfl)) ?_
                  with_reducible refine (breaks_May_1.calls k1 x14_1 a0 (some ad128) co7 t124 t130 _ ?side1 ?side2 ?side3 ?side4 ?side5 A13.out).mono ?_
                  (case side1 => repeat (first | exact (Kd.R_reads' HO_128000.out).2.2 | (with_reducible refine Kd.C_alloc ?_ _) | (with_reducible refine Kd.C_drewN ?_ _) | (with_reducible refine Kd.C_drew ?_)))
                  (case side2 => exact (Kd.R_reads' HO_128000.out).2.1)
                  (case side3 => exact (show _ from by (with_reducible repeat (first | refine blk_drewN ?_ _ | refine blk_drew ?_ | refine blk_alloc ?_ _)); exact BK123.out))
                  (case side4 => exact (show _ from by (with_reducible repeat (first | refine blk_drewN ?_ _ | refine blk_drew ?_ | refine blk_alloc ?_ _)); exact BK127.out))
                  (case side5 => exact NB123_127.out)
                  rintro e w39 ⟨rfl, hb⟩
                  refine ⟨_, rfl, ?_⟩
                  have n0_ := Aside0.mk (Kd.R_below (by (with_reducible repeat (first | apply Kd.R_alloc | apply Kd.R_drewN | apply Kd.R_drew)); exact HO_2.out) hb)
                  have n1_ := Aside0.mk (Kd.R_below (by (with_reducible repeat (first | apply Kd.R_alloc | apply Kd.R_drewN | apply Kd.R_drew)); exact HO_12.out) hb)
                  have n2_ := Aside0.mk (Kd.R_below (by (with_reducible repeat (first | apply Kd.R_alloc | apply Kd.R_drewN | apply Kd.R_drew)); exact HO_128000.out) hb)
                  have n3_ := Aside0.mk (blk_below (g := gb123) (o := .cells #[.string a0] 9 (0, 0)) (by (with_reducible repeat (first | refine blk_drewN ?_ _ | refine blk_drew ?_ | refine blk_alloc ?_ _)); exact BK123.out) hb)
                  have n4_ := Aside0.mk (blk_below (g := gb127) (o := .cells #[.slice (some ad128) t124.length co7] 28 (0, 0)) (by (with_reducible repeat (first | refine blk_drewN ?_ _ | refine blk_drew ?_ | refine blk_alloc ?_ _)); exact BK127.out) hb)
                  have n5_ := Aside0.mk (blk_below (g := gb129) (o := .cells #[.int .i64 ((rd_T33 t124 x14_1).f0), .int .i64 ((rd_T33 t124 x14_1).f1)] 33 (0, 0)) (by (with_reducible repeat (first | refine blk_drewN ?_ _ | refine blk_drew ?_ | refine blk_alloc ?_ _)); exact BK129.out) hb)
                  have n6_ := Aside0.mk (below_step (by repeat (first | (with_reducible first | exact HB.out | apply below_alloc | apply pw_below_drewN | apply below_drew1 | refine below_set ?_ GE123.out | refine below_set ?_ GE127.out | refine below_set ?_ GE129.out) | exact HB.out)) hb)
                  clear HO_2
                  clear HO_12
                  clear HO_128000
                  clear BK123
                  clear BK127
                  clear BK129
                  clear HB
                  have HO_2 := n0_
                  have HO_12 := n1_
                  have HO_128000 := n2_
                  have BK123 := n3_
                  have BK127 := n4_
                  have BK129 := n5_
                  have HB := n6_
                  clear n0_ n1_ n2_ n3_ n4_ n5_ n6_
                  (try clear hb)
                  (try clear hb2)
                  (try clear hk)
                  (try clear hi)
                  refine hK.out _ _ ⟨(blk_cell BK123.out 0).trans rfl, (blk_cell BK129.out 0).trans rfl, (blk_cell BK129.out 1).trans rfl⟩ (fun hHeld => ?_)
                  clear hK K
                  refine norm_ (a' := ?_) ?_ ?_
                  rotate_left
                  · show Act.put _ (some 21) _ = _
                    simp only [Act.put, List.setIfInBounds_toArray, List.set_cons_zero, List.set_cons_succ, i64_w, i32_w]
                    rfl
                  refine one_ (i := 3) (N := some 22) #[true, true, true, true, true, true, true, true, true, true, false, false, false] rfl rfl (one_of HT_.out (by kernel_rfl)) (by decide) (fun K hK => ?_)
                  refine goes_ Try.func15 (by kernel_rfl) rfl #[.int .i64 t130] (by rfl) rfl rfl (by (try simp only [List.map_toArray, List.map_cons, List.map_nil]); first | done | rfl | (simp only [List.length_drop, List.length_take]; rfl)) ?_
                  with_reducible refine (chars_Class.calls k1 t130 t131 _ A14.out).mono ?_
                  rintro e w40 ⟨rfl, hb⟩
                  refine ⟨_, rfl, ?_⟩
                  have n0_ := Aside0.mk (Kd.R_below (by (with_reducible repeat (first | apply Kd.R_alloc | apply Kd.R_drewN | apply Kd.R_drew)); exact HO_2.out) hb)
                  have n1_ := Aside0.mk (Kd.R_below (by (with_reducible repeat (first | apply Kd.R_alloc | apply Kd.R_drewN | apply Kd.R_drew)); exact HO_12.out) hb)
                  have n2_ := Aside0.mk (Kd.R_below (by (with_reducible repeat (first | apply Kd.R_alloc | apply Kd.R_drewN | apply Kd.R_drew)); exact HO_128000.out) hb)
                  have n3_ := Aside0.mk (blk_below (g := gb123) (o := .cells #[.string a0] 9 (0, 0)) (by (with_reducible repeat (first | refine blk_drewN ?_ _ | refine blk_drew ?_ | refine blk_alloc ?_ _)); exact BK123.out) hb)
                  have n4_ := Aside0.mk (blk_below (g := gb127) (o := .cells #[.slice (some ad128) t124.length co7] 28 (0, 0)) (by (with_reducible repeat (first | refine blk_drewN ?_ _ | refine blk_drew ?_ | refine blk_alloc ?_ _)); exact BK127.out) hb)
                  have n5_ := Aside0.mk (blk_below (g := gb129) (o := .cells #[.int .i64 ((rd_T33 t124 x14_1).f0), .int .i64 ((rd_T33 t124 x14_1).f1)] 33 (0, 0)) (by (with_reducible repeat (first | refine blk_drewN ?_ _ | refine blk_drew ?_ | refine blk_alloc ?_ _)); exact BK129.out) hb)
                  have n6_ := Aside0.mk (below_step (by repeat (first | (with_reducible first | exact HB.out | apply below_alloc | apply pw_below_drewN | apply below_drew1 | refine below_set ?_ GE123.out | refine below_set ?_ GE127.out | refine below_set ?_ GE129.out) | exact HB.out)) hb)
                  clear HO_2
                  clear HO_12
                  clear HO_128000
                  clear BK123
                  clear BK127
                  clear BK129
                  clear HB
                  have HO_2 := n0_
                  have HO_12 := n1_
                  have HO_128000 := n2_
                  have BK123 := n3_
                  have BK127 := n4_
                  have BK129 := n5_
                  have HB := n6_
                  clear n0_ n1_ n2_ n3_ n4_ n5_ n6_
                  (try clear hb)
                  (try clear hb2)
                  (try clear hk)
                  (try clear hi)
                  refine hK.out _ _ ⟨(blk_cell BK123.out 0).trans rfl, (blk_cell BK129.out 0).trans rfl, (blk_cell BK129.out 1).trans rfl⟩ (fun hHeld => ?_)
                  clear hK K
                  refine norm_ (a' := ?_) ?_ ?_
                  rotate_left
                  · show Act.put _ (some 22) _ = _
                    simp only [Act.put, List.setIfInBounds_toArray, List.set_cons_zero, List.set_cons_succ, i64_w, i32_w]
                    rfl
                  refine one_ (i := 10) (N := some 29) #[true, true, true, true, true, true, true, true, true, true, true, false, false] rfl rfl (one_of HT_.out (by kernel_rfl)) (by decide) (fun K hK => ?_)
                  refine goes_ Try.func15 (by kernel_rfl) rfl #[.int .i64 (wrap64 (bt a0 (ji15)))] (by rfl) rfl rfl (by (try simp only [List.map_toArray, List.map_cons, List.map_nil]); first | done | (simp only [hji15]; rfl) | rfl | (simp only [List.length_drop, List.length_take]; rfl)) ?_
                  with_reducible refine (chars_Class.calls k1 (wrap64 (bt a0 (ji15))) t132 _ A19.out).mono ?_
                  rintro e w41 ⟨rfl, hb⟩
                  refine ⟨_, rfl, ?_⟩
                  have n0_ := Aside0.mk (Kd.R_below (by (with_reducible repeat (first | apply Kd.R_alloc | apply Kd.R_drewN | apply Kd.R_drew)); exact HO_2.out) hb)
                  have n1_ := Aside0.mk (Kd.R_below (by (with_reducible repeat (first | apply Kd.R_alloc | apply Kd.R_drewN | apply Kd.R_drew)); exact HO_12.out) hb)
                  have n2_ := Aside0.mk (Kd.R_below (by (with_reducible repeat (first | apply Kd.R_alloc | apply Kd.R_drewN | apply Kd.R_drew)); exact HO_128000.out) hb)
                  have n3_ := Aside0.mk (blk_below (g := gb123) (o := .cells #[.string a0] 9 (0, 0)) (by (with_reducible repeat (first | refine blk_drewN ?_ _ | refine blk_drew ?_ | refine blk_alloc ?_ _)); exact BK123.out) hb)
                  have n4_ := Aside0.mk (blk_below (g := gb127) (o := .cells #[.slice (some ad128) t124.length co7] 28 (0, 0)) (by (with_reducible repeat (first | refine blk_drewN ?_ _ | refine blk_drew ?_ | refine blk_alloc ?_ _)); exact BK127.out) hb)
                  have n5_ := Aside0.mk (blk_below (g := gb129) (o := .cells #[.int .i64 ((rd_T33 t124 x14_1).f0), .int .i64 ((rd_T33 t124 x14_1).f1)] 33 (0, 0)) (by (with_reducible repeat (first | refine blk_drewN ?_ _ | refine blk_drew ?_ | refine blk_alloc ?_ _)); exact BK129.out) hb)
                  have n6_ := Aside0.mk (below_step (by repeat (first | (with_reducible first | exact HB.out | apply below_alloc | apply pw_below_drewN | apply below_drew1 | refine below_set ?_ GE123.out | refine below_set ?_ GE127.out | refine below_set ?_ GE129.out) | exact HB.out)) hb)
                  clear HO_2
                  clear HO_12
                  clear HO_128000
                  clear BK123
                  clear BK127
                  clear BK129
                  clear HB
                  have HO_2 := n0_
                  have HO_12 := n1_
                  have HO_128000 := n2_
                  have BK123 := n3_
                  have BK127 := n4_
                  have BK129 := n5_
                  have HB := n6_
                  clear n0_ n1_ n2_ n3_ n4_ n5_ n6_
                  (try clear hb)
                  (try clear hb2)
                  (try clear hk)
                  (try clear hi)
                  refine hK.out _ _ ⟨(blk_cell BK123.out 0).trans rfl, (blk_cell BK129.out 0).trans rfl, (blk_cell BK129.out 1).trans rfl⟩ (fun hHeld => ?_)
                  clear hK K
                  refine norm_ (a' := ?_) ?_ ?_
                  rotate_left
                  · show Act.put _ (some 29) _ = _
                    simp only [Act.put, List.setIfInBounds_toArray, List.set_cons_zero, List.set_cons_succ, i64_w, i32_w]
                    rfl
                  refine pure_ (i := 11) (N := some 7) (v := ?_) (a' := ?_) #[true, true, true, true, true, true, true, true, true, true, true, true, false] rfl rfl (any_of HT_.out (by kernel_rfl)) (fun _ _ _ h => h) (Or.inl ⟨by rfl, ?_⟩) ?_ ?_
                  rotate_left
                  · intro w'
                    go_simp
                    with_reducible rfl
                  rotate_left
                  · simp only [Act.put, List.setIfInBounds_toArray, List.set_cons_zero, List.set_cons_succ, i64_w, i32_w]
                    rfl
                  refine pure_ (i := 12) (N := some 8) (v := ?_) (a' := ?_) #[true, true, true, true, true, true, true, true, true, true, true, true, true] rfl rfl (any_of HT_.out (by kernel_rfl)) (fun _ _ _ h => h) (Or.inl ⟨by rfl, ?_⟩) ?_ ?_
                  rotate_left
                  · intro w'
                    go_simp
                    with_reducible rfl
                  rotate_left
                  · simp only [Act.put, List.setIfInBounds_toArray, List.set_cons_zero, List.set_cons_succ, i64_w, i32_w]
                    rfl
                  refine done_ (done_of HT_.out (by kernel_rfl)) ?_
                  go_upto_region 10 with (fail)
                  go_cut [39] (fun v39 wc => ∃ (kq : Nat) (x39_31 : Bool), v39 = .bool x39_31 ∧ Aside0 (breaks_May.j1 kq x2_1 x14_1 t131 t132 t124 (t124.length : Int) x14_1 x39_31 a0 t124 = some r) ∧ Aside0 (kq ≤ k1) ∧ Aside0 (Kd.R (Kd.int .i64) 3 wc w.heap.size (fun _ => True) u2 x2_1) ∧ Aside0 (Kd.R k33 33 wc w.heap.size (fun k_ => k_ ≠ gb129) (.slice (some ad128) t124.length co7) t124) ∧ Aside0 (Kd.R k33 33 wc w.heap.size (fun k_ => k_ ≠ gb129) (.slice (some ad128) t124.length co7) t124) ∧ Aside0 (wc.heap[gb123]? = some (.cells #[.string a0] 9 (0, 0))) ∧ Aside0 (wc.heap[gb127]? = some (.cells #[(.slice (some ad128) t124.length co7)] 28 (0, 0))) ∧ Aside0 (wc.heap[gb129]? = some (.cells #[.int .i64 ((rd_T33 t124 x14_1).f0), .int .i64 ((rd_T33 t124 x14_1).f1)] 33 (0, 0))) ∧ Aside0 (Below w.heap.size w wc))
                  case first =>
                    have H := HC32.out
                    clear HC32
                    by_cases c42 : x14_1 = (wrap64 ((t124.length : Int) - 1))
                    · rw [if_pos c42] at H
                      have c42b0 : (x14_1 == (wrap64 ((t124.length : Int) - 1))) = true := beq_iff_eq.mpr c42
                      have c42b1 : (x14_1 != (wrap64 ((t124.length : Int) - 1))) = false := bne_eq_false_iff_eq.mpr c42
                      clear c42
                      (first | rw [c42b0] | (simp only [i64_w, i32_w]; rw [c42b0]) | skip)
                      have H' := Aside0.mk H
                      clear H
                      have hnb43 := NB127_123.out
                      have hnc43 := NB123_127.out
                      have hnb44 := NB127_129.out
                      have hnc44 := NB129_127.out
                      have hcz45_0 : w41.cell? ⟨gb127, 0, none⟩ = some (.slice (some ad128) t124.length co7) := (blk_cell BK127.out 0).trans rfl
                      have hfz45_0 := blk_frozen BK127.out 0
                      go_wp2
                      go_meet
                      case rel => exact ⟨_, (true), (by first | rfl | (simp; done) | (simp [*]; done)), H', ⟨by have := HK1.out; first | omega | exact Nat.le_refl _⟩, ⟨by (with_reducible repeat (first | apply Kd.R_alloc | apply Kd.R_drewN | apply Kd.R_drew)); exact HO_2.out⟩, ⟨by (with_reducible repeat (first | apply Kd.R_alloc | apply Kd.R_drewN | apply Kd.R_drew)); exact HO_12.out⟩, ⟨by (with_reducible repeat (first | apply Kd.R_alloc | apply Kd.R_drewN | apply Kd.R_drew)); exact HO_128000.out⟩, ⟨by (with_reducible repeat (first | refine blk_drewN ?_ _ | refine blk_drew ?_ | refine blk_alloc ?_ _)); exact BK123.out⟩, ⟨by (with_reducible repeat (first | refine blk_drewN ?_ _ | refine blk_drew ?_ | refine blk_alloc ?_ _)); exact BK127.out⟩, ⟨by (with_reducible repeat (first | refine blk_drewN ?_ _ | refine blk_drew ?_ | refine blk_alloc ?_ _)); exact BK129.out⟩, ⟨by repeat (first | (with_reducible first | exact HB.out | apply below_alloc | apply pw_below_drewN | apply below_drew1 | refine below_set ?_ GE123.out | refine below_set ?_ GE127.out | refine below_set ?_ GE129.out) | exact HB.out)⟩⟩
                    · rw [if_neg c42] at H
                      have c42b0 : (x14_1 == (wrap64 ((t124.length : Int) - 1))) = false := beq_eq_false_iff_ne.mpr c42
                      have c42b1 : (x14_1 != (wrap64 ((t124.length : Int) - 1))) = true := bne_iff_ne.mpr c42
                      (first | rw [c42b0] | (simp only [i64_w, i32_w]; rw [c42b0]) | skip)
                      replace H := Option.bind_eq_some_iff.mp H
                      obtain ⟨t136, A460, H⟩ := H
                      replace H : ((chars_Class.f k1 t136).bind fun t137 => ((breaks_stuck.f t137).bind fun t138 => (breaks_May.j1 k1 x2_1 x14_1 t131 t132 t124 (t124.length : Int) x14_1 t138 a0 t124))) = some r := H
                      have A46 := Aside0.mk A460
                      clear A460
                      replace H := Option.bind_eq_some_iff.mp H
                      obtain ⟨t137, A470, H⟩ := H
                      replace H : ((breaks_stuck.f t137).bind fun t138 => (breaks_May.j1 k1 x2_1 x14_1 t131 t132 t124 (t124.length : Int) x14_1 t138 a0 t124)) = some r := H
                      have A47 := Aside0.mk A470
                      clear A470
                      replace H := Option.bind_eq_some_iff.mp H
                      obtain ⟨t138, A480, H⟩ := H
                      replace H : (breaks_May.j1 k1 x2_1 x14_1 t131 t132 t124 (t124.length : Int) x14_1 t138 a0 t124) = some r := H
                      have A48 := Aside0.mk A480
                      clear A480
                      have H' := Aside0.mk H
                      clear H
                      have hnb49 := NB127_123.out
                      have hnc49 := NB123_127.out
                      have hnb50 := NB127_129.out
                      have hnc50 := NB129_127.out
                      have hcz51_0 : w41.cell? ⟨gb127, 0, none⟩ = some (.slice (some ad128) t124.length co7) := (blk_cell BK127.out 0).trans rfl
                      have hfz51_0 := blk_frozen BK127.out 0
                      go_wp2_with (first | (go_at_call 24; (with_reducible refine (breaks_May_1.calls k1 (wrap64 (x14_1 + 1)) a0 (some ad128) co7 t124 t136 _ ?side1 ?side2 ?side3 ?side4 ?side5 A46.out).mono ?_); (case side1 => repeat (first | exact (Kd.R_reads' HO_128000.out).2.2 | (with_reducible refine Kd.C_alloc ?_ _) | (with_reducible refine Kd.C_drewN ?_ _) | (with_reducible refine Kd.C_drew ?_))); (case side2 => exact (Kd.R_reads' HO_128000.out).2.1); (case side3 => exact (show _ from by (with_reducible repeat (first | refine blk_drewN ?_ _ | refine blk_drew ?_ | refine blk_alloc ?_ _)); exact BK123.out)); (case side4 => exact (show _ from by (with_reducible repeat (first | refine blk_drewN ?_ _ | refine blk_drew ?_ | refine blk_alloc ?_ _)); exact BK127.out)); (case side5 => exact NB123_127.out); rintro e w52 ⟨rfl, hb⟩; have n0_ := Aside0.mk (Kd.R_below (by (with_reducible repeat (first | apply Kd.R_alloc | apply Kd.R_drewN | apply Kd.R_drew)); exact HO_2.out) hb); have n1_ := Aside0.mk (Kd.R_below (by (with_reducible repeat (first | apply Kd.R_alloc | apply Kd.R_drewN | apply Kd.R_drew)); exact HO_12.out) hb); have n2_ := Aside0.mk (Kd.R_below (by (with_reducible repeat (first | apply Kd.R_alloc | apply Kd.R_drewN | apply Kd.R_drew)); exact HO_128000.out) hb); have n3_ := Aside0.mk (blk_below (g := gb123) (o := .cells #[.string a0] 9 (0, 0)) (by (with_reducible repeat (first | refine blk_drewN ?_ _ | refine blk_drew ?_ | refine blk_alloc ?_ _)); exact BK123.out) hb); have n4_ := Aside0.mk (blk_below (g := gb127) (o := .cells #[.slice (some ad128) t124.length co7] 28 (0, 0)) (by (with_reducible repeat (first | refine blk_drewN ?_ _ | refine blk_drew ?_ | refine blk_alloc ?_ _)); exact BK127.out) hb); have n5_ := Aside0.mk (blk_below (g := gb129) (o := .cells #[.int .i64 ((rd_T33 t124 x14_1).f0), .int .i64 ((rd_T33 t124 x14_1).f1)] 33 (0, 0)) (by (with_reducible repeat (first | refine blk_drewN ?_ _ | refine blk_drew ?_ | refine blk_alloc ?_ _)); exact BK129.out) hb); have n6_ := Aside0.mk (below_step (by repeat (first | (with_reducible first | exact HB.out | apply below_alloc | apply pw_below_drewN | apply below_drew1 | refine below_set ?_ GE123.out | refine below_set ?_ GE127.out | refine below_set ?_ GE129.out) | exact HB.out)) hb); clear HO_2; clear HO_12; clear HO_128000; clear BK123; clear BK127; clear BK129; clear HB; have HO_2 := n0_; have HO_12 := n1_; have HO_128000 := n2_; have BK123 := n3_; have BK127 := n4_; have BK129 := n5_; have HB := n6_; clear n0_ n1_ n2_ n3_ n4_ n5_ n6_; (try clear hb); (try clear hb2); (try clear hk); (try clear hi)) | (go_at_call 15; (with_reducible refine (chars_Class.calls k1 t136 t137 _ A47.out).mono ?_); rintro e w53 ⟨rfl, hb⟩; have n0_ := Aside0.mk (Kd.R_below (by (with_reducible repeat (first | apply Kd.R_alloc | apply Kd.R_drewN | apply Kd.R_drew)); exact HO_2.out) hb); have n1_ := Aside0.mk (Kd.R_below (by (with_reducible repeat (first | apply Kd.R_alloc | apply Kd.R_drewN | apply Kd.R_drew)); exact HO_12.out) hb); have n2_ := Aside0.mk (Kd.R_below (by (with_reducible repeat (first | apply Kd.R_alloc | apply Kd.R_drewN | apply Kd.R_drew)); exact HO_128000.out) hb); have n3_ := Aside0.mk (blk_below (g := gb123) (o := .cells #[.string a0] 9 (0, 0)) (by (with_reducible repeat (first | refine blk_drewN ?_ _ | refine blk_drew ?_ | refine blk_alloc ?_ _)); exact BK123.out) hb); have n4_ := Aside0.mk (blk_below (g := gb127) (o := .cells #[.slice (some ad128) t124.length co7] 28 (0, 0)) (by (with_reducible repeat (first | refine blk_drewN ?_ _ | refine blk_drew ?_ | refine blk_alloc ?_ _)); exact BK127.out) hb); have n5_ := Aside0.mk (blk_below (g := gb129) (o := .cells #[.int .i64 ((rd_T33 t124 x14_1).f0), .int .i64 ((rd_T33 t124 x14_1).f1)] 33 (0, 0)) (by (with_reducible repeat (first | refine blk_drewN ?_ _ | refine blk_drew ?_ | refine blk_alloc ?_ _)); exact BK129.out) hb); have n6_ := Aside0.mk (below_step (by repeat (first | (with_reducible first | exact HB.out | apply below_alloc | apply pw_below_drewN | apply below_drew1 | refine below_set ?_ GE123.out | refine below_set ?_ GE127.out | refine below_set ?_ GE129.out) | exact HB.out)) hb); clear HO_2; clear HO_12; clear HO_128000; clear BK123; clear BK127; clear BK129; clear HB; have HO_2 := n0_; have HO_12 := n1_; have HO_128000 := n2_; have BK123 := n3_; have BK127 := n4_; have BK129 := n5_; have HB := n6_; clear n0_ n1_ n2_ n3_ n4_ n5_ n6_; (try clear hb); (try clear hb2); (try clear hk); (try clear hi)) | (go_at_call 25; (with_reducible refine (breaks_stuck.calls t137 t138 _ A48.out).mono ?_); rintro e w' ⟨rfl, ⟨nd, rfl⟩⟩))
                      go_meet
                      case rel => exact ⟨_, (t138), (by first | rfl | (simp; done) | (simp [*]; done)), H', ⟨by have := HK1.out; first | omega | exact Nat.le_refl _⟩, ⟨by (with_reducible repeat (first | apply Kd.R_alloc | apply Kd.R_drewN | apply Kd.R_drew)); exact HO_2.out⟩, ⟨by (with_reducible repeat (first | apply Kd.R_alloc | apply Kd.R_drewN | apply Kd.R_drew)); exact HO_12.out⟩, ⟨by (with_reducible repeat (first | apply Kd.R_alloc | apply Kd.R_drewN | apply Kd.R_drew)); exact HO_128000.out⟩, ⟨by (with_reducible repeat (first | refine blk_drewN ?_ _ | refine blk_drew ?_ | refine blk_alloc ?_ _)); exact BK123.out⟩, ⟨by (with_reducible repeat (first | refine blk_drewN ?_ _ | refine blk_drew ?_ | refine blk_alloc ?_ _)); exact BK127.out⟩, ⟨by (with_reducible repeat (first | refine blk_drewN ?_ _ | refine blk_drew ?_ | refine blk_alloc ?_ _)); exact BK129.out⟩, ⟨by repeat (first | (with_reducible first | exact HB.out | apply below_alloc | apply pw_below_drewN | apply below_drew1 | refine below_set ?_ GE123.out | refine below_set ?_ GE127.out | refine below_set ?_ GE129.out) | exact HB.out)⟩⟩
                  case rest =>
                    clear HC32
                    try clear c1
                    try clear p1
                    try clear q1
                    try clear hx1
                    try clear c2
                    try clear p2
                    try clear c3
                    try clear c4
                    try clear c5
                    try clear p6
                    try clear p12
                    try clear q12
                    try clear hx12
                    try clear c15
                    try clear p18
                    try clear q18
                    try clear hx18
                    try clear c20
                    try clear c20b0
                    try clear c20b1
                    try clear c21
                    try clear c23
                    try clear c24
                    try clear c34
                    try clear c35
                    try clear c42
                    try clear c42b0
                    try clear c42b1
                    try clear c43
                    try clear c44
                    try clear c49
                    try clear c50
                    try clear hcz25_0
                    try clear hcz25_1
                    try clear hcz36_0
                    try clear hcz36_1
                    try clear hcz45_0
                    try clear hcz51_0
                    try clear hfz25_0
                    try clear hfz25_1
                    try clear hfz36_0
                    try clear hfz36_1
                    try clear hfz45_0
                    try clear hfz51_0
                    try clear hx128_0
                    try clear hx128_1
                    try clear p128
                    try clear p18
                    try clear q128
                    try clear q18
                    obtain ⟨kq, x39_31, rfl, HA, HJ31, HO_2, HO_12, HO_128000, BK123, BK127, BK129, HB⟩ := hcut
                    cases kq with
                    | zero => exact absurd HA.out (by simp [breaks_May.j1])
                    | succ kj31 =>
                      have H := HA.out
                      clear HA
                      simp only [breaks_May.j1] at H
                      by_cases c54 : x39_31 = true
                      · subst c54
                        have H1 : (if x2_1.length < 17592186044416 then (breaks_May.l0 kj31 (x2_1 ++ [0]) t124 (t124.length : Int) (wrap64 (x14_1 + 1)) a0 t124) else (none)) = some r := by rw [if_pos rfl] at H; exact H
                        clear H
                        have H := H1
                        clear H1
                        by_cases c55 : x2_1.length < 17592186044416
                        · rw [if_pos c55] at H
                          have LMc55 := Aside0.mk c55
                          clear c55
                          obtain ⟨y139, hy139⟩ : ∃ y_ : List Int, y_ = (x2_1 ++ [0]) := ⟨_, rfl⟩
                          replace H : (breaks_May.l0 kj31 y139 t124 (t124.length : Int) (wrap64 (x14_1 + 1)) a0 t124) = some r := by first | (rw [hy139]; with_reducible exact H) | (have H2_ := (Option.bind_some _ _).symm.trans H; rw [hy139]; with_reducible exact H2_) | (have H2_ := (Option.bind_some _ _).symm.trans H; with_reducible exact H2_) | with_reducible exact H | (rw [hy139]; exact H) | exact H
                          have Ny139 := Aside0.mk hy139
                          clear hy139
                          have H' := Aside0.mk H
                          clear H
                          go_wp2_with (first | ((with_reducible refine gate_builtin (b := .append) (xs := #[.tmp 53, .tmp 54]) rfl ?_); at_builtin; refine Kd.R_append (Kd.int .i64) (w0 := w) w.heap.size rfl (.tmp 53) (.tmp 54) 22 3 (.int .i64 0) 8 rfl Try.underlying22 info3 rfl (by decide) (by omega) u2 x2_1 0 [.int .i64 0] (fun _ => True) (fun _ => False) rfl rfl ?aP (fun _ hk => hk.elim) ?aF ?aO ?aB ?aS ?aL ?_; (case aP => exact rfl); (case aB => exact (by repeat (first | (with_reducible first | exact HB.out | apply below_alloc | apply pw_below_drewN | apply below_drew1 | refine below_set ?_ GE123.out | refine below_set ?_ GE127.out | refine below_set ?_ GE129.out) | exact HB.out))); (case aF => exact (fun _ _ => trivial)); (case aO => exact (by (with_reducible repeat (first | apply Kd.R_alloc | apply Kd.R_drewN | apply Kd.R_drew)); exact HO_2.out)); (case aS => exact (below_size (by repeat (first | (with_reducible first | exact HB.out | apply below_alloc | apply pw_below_drewN | apply below_drew1 | refine below_set ?_ GE123.out | refine below_set ?_ GE127.out | refine below_set ?_ GE129.out) | exact HB.out)))); (case aL => have := LMc55.out; omega); intro v140 w56 ho hb hg hat; rw [← Ny139.out] at ho; have n0_ := Aside0.mk (Kd.R_over' (by (with_reducible repeat (first | apply Kd.R_alloc | apply Kd.R_drewN | apply Kd.R_drew)); exact HO_12.out) (Kd.R_typed (by (with_reducible repeat (first | apply Kd.R_alloc | apply Kd.R_drewN | apply Kd.R_drew)); exact HO_2.out)) (by decide) hg); have n1_ := Aside0.mk (Kd.R_over' (by (with_reducible repeat (first | apply Kd.R_alloc | apply Kd.R_drewN | apply Kd.R_drew)); exact HO_128000.out) (Kd.R_typed (by (with_reducible repeat (first | apply Kd.R_alloc | apply Kd.R_drewN | apply Kd.R_drew)); exact HO_2.out)) (by decide) hg); have n2_ := Aside0.mk (blk_grown (g := gb123) (o := .cells #[.string a0] 9 (0, 0)) (by (with_reducible repeat (first | refine blk_drewN ?_ _ | refine blk_drew ?_ | refine blk_alloc ?_ _)); exact BK123.out) hg (Kd.R_ne HO_2.out BK123.out (by decide))); have n3_ := Aside0.mk (blk_grown (g := gb127) (o := .cells #[.slice (some ad128) t124.length co7] 28 (0, 0)) (by (with_reducible repeat (first | refine blk_drewN ?_ _ | refine blk_drew ?_ | refine blk_alloc ?_ _)); exact BK127.out) hg (Kd.R_ne HO_2.out BK127.out (by decide))); have n4_ := Aside0.mk (blk_grown (g := gb129) (o := .cells #[.int .i64 ((rd_T33 t124 x14_1).f0), .int .i64 ((rd_T33 t124 x14_1).f1)] 33 (0, 0)) (by (with_reducible repeat (first | refine blk_drewN ?_ _ | refine blk_drew ?_ | refine blk_alloc ?_ _)); exact BK129.out) hg (Kd.R_ne HO_2.out BK129.out (by decide))); have n5_ := Aside0.mk (hb); have n6_ := Aside0.mk (ho); clear HO_12; clear HO_128000; clear BK123; clear BK127; clear BK129; clear HB; clear HO_2; have HO_12 := n0_; have HO_128000 := n1_; have BK123 := n2_; have BK127 := n3_; have BK129 := n4_; have HB := n5_; have HO141 := n6_; clear n0_ n1_ n2_ n3_ n4_ n5_ n6_; clear ho hb hg hat))
                          go_roundg kj31
                          case measure => have := HK1.out; have := HJ31.out; omega
                          case rel => exact ⟨(y139), (wrap64 (x14_1 + 1)), (by first | rfl | (simp; done) | (simp [*]; done)), H', ⟨by have := HK1.out; have := HJ31.out; omega⟩, ⟨by (with_reducible repeat (first | apply Kd.R_alloc | apply Kd.R_drewN | apply Kd.R_drew)); exact HO141.out⟩, ⟨by (with_reducible repeat (first | apply Kd.R_alloc | apply Kd.R_drewN | apply Kd.R_drew)); exact Kd.R_mono HO_12.out (fun _ hk => trivial)⟩, ⟨by (with_reducible repeat (first | apply Kd.R_alloc | apply Kd.R_drewN | apply Kd.R_drew)); exact Kd.R_mono HO_128000.out (fun _ hk => trivial)⟩, ⟨by (with_reducible repeat (first | refine blk_drewN ?_ _ | refine blk_drew ?_ | refine blk_alloc ?_ _)); exact BK123.out⟩, ⟨by (with_reducible repeat (first | refine blk_drewN ?_ _ | refine blk_drew ?_ | refine blk_alloc ?_ _)); exact BK127.out⟩, ⟨by repeat (first | (with_reducible first | exact HB.out | apply below_alloc | apply pw_below_drewN | apply below_drew1 | refine below_set ?_ GE123.out | refine below_set ?_ GE127.out | refine below_set ?_ GE129.out) | exact HB.out)⟩⟩
                        · rw [if_neg c55] at H
                          exact absurd H (by simp)
                      · replace c54 := Bool.eq_false_iff.mpr c54
                        subst c54
                        have H1 : (if t131 = 2 then (breaks_May.j2 kj31 x2_1 x14_1 t132 t124 (t124.length : Int) x14_1 true a0 t124) else (breaks_May.j2 kj31 x2_1 x14_1 t132 t124 (t124.length : Int) x14_1 (t132 == 14) a0 t124)) = some r := by rw [if_neg (show ¬ (false = true) by decide)] at H; exact H
                        clear H
                        have H := H1
                        clear H1
                        have HC57 := Aside0.mk H
                        clear H
                        go_upto_region 12 with (fail)
                        go_cut [56] (fun v56 wc => ∃ (kq : Nat) (x56_56 : Bool), v56 = .bool x56_56 ∧ Aside0 (breaks_May.j2 kq x2_1 x14_1 t132 t124 (t124.length : Int) x14_1 x56_56 a0 t124 = some r) ∧ Aside0 (kq ≤ kj31) ∧ Aside0 (Kd.R (Kd.int .i64) 3 wc w.heap.size (fun _ => True) u2 x2_1) ∧ Aside0 (Kd.R k33 33 wc w.heap.size (fun k_ => k_ ≠ gb129) (.slice (some ad128) t124.length co7) t124) ∧ Aside0 (Kd.R k33 33 wc w.heap.size (fun k_ => k_ ≠ gb129) (.slice (some ad128) t124.length co7) t124) ∧ Aside0 (wc.heap[gb123]? = some (.cells #[.string a0] 9 (0, 0))) ∧ Aside0 (wc.heap[gb127]? = some (.cells #[(.slice (some ad128) t124.length co7)] 28 (0, 0))) ∧ Aside0 (wc.heap[gb129]? = some (.cells #[.int .i64 ((rd_T33 t124 x14_1).f0), .int .i64 ((rd_T33 t124 x14_1).f1)] 33 (0, 0))) ∧ Aside0 (Below w.heap.size w wc))
                        case first =>
                          have H := HC57.out
                          clear HC57
                          by_cases c58 : t131 = 2
                          · rw [if_pos c58] at H
                            have c58b0 : (t131 == 2) = true := beq_iff_eq.mpr c58
                            have c58b1 : (t131 != 2) = false := bne_eq_false_iff_eq.mpr c58
                            clear c58
                            (first | rw [c58b0] | (simp only [i64_w, i32_w]; rw [c58b0]) | skip)
                            have H' := Aside0.mk H
                            clear H
                            go_wp2
                            go_meet
                            case rel => exact ⟨_, (true), (by first | rfl | (simp; done) | (simp [*]; done)), H', ⟨by have := HK1.out; have := HJ31.out; first | omega | exact Nat.le_refl _⟩, ⟨by (with_reducible repeat (first | apply Kd.R_alloc | apply Kd.R_drewN | apply Kd.R_drew)); exact HO_2.out⟩, ⟨by (with_reducible repeat (first | apply Kd.R_alloc | apply Kd.R_drewN | apply Kd.R_drew)); exact HO_12.out⟩, ⟨by (with_reducible repeat (first | apply Kd.R_alloc | apply Kd.R_drewN | apply Kd.R_drew)); exact HO_128000.out⟩, ⟨by (with_reducible repeat (first | refine blk_drewN ?_ _ | refine blk_drew ?_ | refine blk_alloc ?_ _)); exact BK123.out⟩, ⟨by (with_reducible repeat (first | refine blk_drewN ?_ _ | refine blk_drew ?_ | refine blk_alloc ?_ _)); exact BK127.out⟩, ⟨by (with_reducible repeat (first | refine blk_drewN ?_ _ | refine blk_drew ?_ | refine blk_alloc ?_ _)); exact BK129.out⟩, ⟨by repeat (first | (with_reducible first | exact HB.out | apply below_alloc | apply pw_below_drewN | apply below_drew1 | refine below_set ?_ GE123.out | refine below_set ?_ GE127.out | refine below_set ?_ GE129.out) | exact HB.out)⟩⟩
                          · rw [if_neg c58] at H
                            have c58b0 : (t131 == 2) = false := beq_eq_false_iff_ne.mpr c58
                            have c58b1 : (t131 != 2) = true := bne_iff_ne.mpr c58
                            (first | rw [c58b0] | (simp only [i64_w, i32_w]; rw [c58b0]) | skip)
                            have H' := Aside0.mk H
                            clear H
                            go_wp2
                            go_meet
                            case rel => exact ⟨_, ((t132 == 14)), (by first | rfl | (simp; done) | (simp [*]; done)), H', ⟨by have := HK1.out; have := HJ31.out; first | omega | exact Nat.le_refl _⟩, ⟨by (with_reducible repeat (first | apply Kd.R_alloc | apply Kd.R_drewN | apply Kd.R_drew)); exact HO_2.out⟩, ⟨by (with_reducible repeat (first | apply Kd.R_alloc | apply Kd.R_drewN | apply Kd.R_drew)); exact HO_12.out⟩, ⟨by (with_reducible repeat (first | apply Kd.R_alloc | apply Kd.R_drewN | apply Kd.R_drew)); exact HO_128000.out⟩, ⟨by (with_reducible repeat (first | refine blk_drewN ?_ _ | refine blk_drew ?_ | refine blk_alloc ?_ _)); exact BK123.out⟩, ⟨by (with_reducible repeat (first | refine blk_drewN ?_ _ | refine blk_drew ?_ | refine blk_alloc ?_ _)); exact BK127.out⟩, ⟨by (with_reducible repeat (first | refine blk_drewN ?_ _ | refine blk_drew ?_ | refine blk_alloc ?_ _)); exact BK129.out⟩, ⟨by repeat (first | (with_reducible first | exact HB.out | apply below_alloc | apply pw_below_drewN | apply below_drew1 | refine below_set ?_ GE123.out | refine below_set ?_ GE127.out | refine below_set ?_ GE129.out) | exact HB.out)⟩⟩
                        case rest =>
                          clear HC57
                          try clear c1
                          try clear p1
                          try clear q1
                          try clear hx1
                          try clear c2
                          try clear p2
                          try clear c3
                          try clear c4
                          try clear c5
                          try clear p6
                          try clear p12
                          try clear q12
                          try clear hx12
                          try clear c15
                          try clear p18
                          try clear q18
                          try clear hx18
                          try clear c20
                          try clear c20b0
                          try clear c20b1
                          try clear c21
                          try clear c23
                          try clear c24
                          try clear c34
                          try clear c35
                          try clear c42
                          try clear c42b0
                          try clear c42b1
                          try clear c43
                          try clear c44
                          try clear c49
                          try clear c50
                          try clear c54
                          try clear c55
                          try clear c58
                          try clear c58b0
                          try clear c58b1
                          try clear hcz25_0
                          try clear hcz25_1
                          try clear hcz36_0
                          try clear hcz36_1
                          try clear hcz45_0
                          try clear hcz51_0
                          try clear hfz25_0
                          try clear hfz25_1
                          try clear hfz36_0
                          try clear hfz36_1
                          try clear hfz45_0
                          try clear hfz51_0
                          try clear hx128_0
                          try clear hx128_1
                          try clear p1
                          try clear p12
                          try clear p128
                          try clear p18
                          try clear p2
                          try clear p6
                          try clear q1
                          try clear q12
                          try clear q128
                          try clear q18
                          obtain ⟨kq, x56_56, rfl, HA, HJ56, HO_2, HO_12, HO_128000, BK123, BK127, BK129, HB⟩ := hcut
                          cases kq with
                          | zero => exact absurd HA.out (by simp [breaks_May.j2])
                          | succ kj56 =>
                            have H := HA.out
                            clear HA
                            simp only [breaks_May.j2] at H
                            by_cases c59 : x56_56 = true
                            · subst c59
                              have H1 : (if x2_1.length < 17592186044416 then (breaks_May.l0 kj56 (x2_1 ++ [1]) t124 (t124.length : Int) (wrap64 (x14_1 + 1)) a0 t124) else (none)) = some r := by rw [if_pos rfl] at H; exact H
                              clear H
                              have H := H1
                              clear H1
                              by_cases c60 : x2_1.length < 17592186044416
                              · rw [if_pos c60] at H
                                have LMc60 := Aside0.mk c60
                                clear c60
                                obtain ⟨y142, hy142⟩ : ∃ y_ : List Int, y_ = (x2_1 ++ [1]) := ⟨_, rfl⟩
                                replace H : (breaks_May.l0 kj56 y142 t124 (t124.length : Int) (wrap64 (x14_1 + 1)) a0 t124) = some r := by first | (rw [hy142]; with_reducible exact H) | (have H2_ := (Option.bind_some _ _).symm.trans H; rw [hy142]; with_reducible exact H2_) | (have H2_ := (Option.bind_some _ _).symm.trans H; with_reducible exact H2_) | with_reducible exact H | (rw [hy142]; exact H) | exact H
                                have Ny142 := Aside0.mk hy142
                                clear hy142
                                have H' := Aside0.mk H
                                clear H
                                go_wp2_with (first | ((with_reducible refine gate_builtin (b := .append) (xs := #[.tmp 63, .tmp 64]) rfl ?_); at_builtin; refine Kd.R_append (Kd.int .i64) (w0 := w) w.heap.size rfl (.tmp 63) (.tmp 64) 22 3 (.int .i64 0) 8 rfl Try.underlying22 info3 rfl (by decide) (by omega) u2 x2_1 1 [.int .i64 1] (fun _ => True) (fun _ => False) rfl rfl ?aP (fun _ hk => hk.elim) ?aF ?aO ?aB ?aS ?aL ?_; (case aP => exact rfl); (case aB => exact (by repeat (first | (with_reducible first | exact HB.out | apply below_alloc | apply pw_below_drewN | apply below_drew1 | refine below_set ?_ GE123.out | refine below_set ?_ GE127.out | refine below_set ?_ GE129.out) | exact HB.out))); (case aF => exact (fun _ _ => trivial)); (case aO => exact (by (with_reducible repeat (first | apply Kd.R_alloc | apply Kd.R_drewN | apply Kd.R_drew)); exact HO_2.out)); (case aS => exact (below_size (by repeat (first | (with_reducible first | exact HB.out | apply below_alloc | apply pw_below_drewN | apply below_drew1 | refine below_set ?_ GE123.out | refine below_set ?_ GE127.out | refine below_set ?_ GE129.out) | exact HB.out)))); (case aL => have := LMc60.out; omega); intro v143 w61 ho hb hg hat; rw [← Ny142.out] at ho; have n0_ := Aside0.mk (Kd.R_over' (by (with_reducible repeat (first | apply Kd.R_alloc | apply Kd.R_drewN | apply Kd.R_drew)); exact HO_12.out) (Kd.R_typed (by (with_reducible repeat (first | apply Kd.R_alloc | apply Kd.R_drewN | apply Kd.R_drew)); exact HO_2.out)) (by decide) hg); have n1_ := Aside0.mk (Kd.R_over' (by (with_reducible repeat (first | apply Kd.R_alloc | apply Kd.R_drewN | apply Kd.R_drew)); exact HO_128000.out) (Kd.R_typed (by (with_reducible repeat (first | apply Kd.R_alloc | apply Kd.R_drewN | apply Kd.R_drew)); exact HO_2.out)) (by decide) hg); have n2_ := Aside0.mk (blk_grown (g := gb123) (o := .cells #[.string a0] 9 (0, 0)) (by (with_reducible repeat (first | refine blk_drewN ?_ _ | refine blk_drew ?_ | refine blk_alloc ?_ _)); exact BK123.out) hg (Kd.R_ne HO_2.out BK123.out (by decide))); have n3_ := Aside0.mk (blk_grown (g := gb127) (o := .cells #[.slice (some ad128) t124.length co7] 28 (0, 0)) (by (with_reducible repeat (first | refine blk_drewN ?_ _ | refine blk_drew ?_ | refine blk_alloc ?_ _)); exact BK127.out) hg (Kd.R_ne HO_2.out BK127.out (by decide))); have n4_ := Aside0.mk (blk_grown (g := gb129) (o := .cells #[.int .i64 ((rd_T33 t124 x14_1).f0), .int .i64 ((rd_T33 t124 x14_1).f1)] 33 (0, 0)) (by (with_reducible repeat (first | refine blk_drewN ?_ _ | refine blk_drew ?_ | refine blk_alloc ?_ _)); exact BK129.out) hg (Kd.R_ne HO_2.out BK129.out (by decide))); have n5_ := Aside0.mk (hb); have n6_ := Aside0.mk (ho); clear HO_12; clear HO_128000; clear BK123; clear BK127; clear BK129; clear HB; clear HO_2; have HO_12 := n0_; have HO_128000 := n1_; have BK123 := n2_; have BK127 := n3_; have BK129 := n4_; have HB := n5_; have HO144 := n6_; clear n0_ n1_ n2_ n3_ n4_ n5_ n6_; clear ho hb hg hat))
                                go_roundg kj56
                                case measure => have := HK1.out; have := HJ31.out; have := HJ56.out; omega
                                case rel => exact ⟨(y142), (wrap64 (x14_1 + 1)), (by first | rfl | (simp; done) | (simp [*]; done)), H', ⟨by have := HK1.out; have := HJ31.out; have := HJ56.out; omega⟩, ⟨by (with_reducible repeat (first | apply Kd.R_alloc | apply Kd.R_drewN | apply Kd.R_drew)); exact HO144.out⟩, ⟨by (with_reducible repeat (first | apply Kd.R_alloc | apply Kd.R_drewN | apply Kd.R_drew)); exact Kd.R_mono HO_12.out (fun _ hk => trivial)⟩, ⟨by (with_reducible repeat (first | apply Kd.R_alloc | apply Kd.R_drewN | apply Kd.R_drew)); exact Kd.R_mono HO_128000.out (fun _ hk => trivial)⟩, ⟨by (with_reducible repeat (first | refine blk_drewN ?_ _ | refine blk_drew ?_ | refine blk_alloc ?_ _)); exact BK123.out⟩, ⟨by (with_reducible repeat (first | refine blk_drewN ?_ _ | refine blk_drew ?_ | refine blk_alloc ?_ _)); exact BK127.out⟩, ⟨by repeat (first | (with_reducible first | exact HB.out | apply below_alloc | apply pw_below_drewN | apply below_drew1 | refine below_set ?_ GE123.out | refine below_set ?_ GE127.out | refine below_set ?_ GE129.out) | exact HB.out)⟩⟩
                              · rw [if_neg c60] at H
                                exact absurd H (by simp)
                            · replace c59 := Bool.eq_false_iff.mpr c59
                              subst c59
                              have H1 : (if t132 = 13 then (if x2_1.length < 17592186044416 then (breaks_May.l0 kj56 (x2_1 ++ [0]) t124 (t124.length : Int) (wrap64 (x14_1 + 1)) a0 t124) else (none)) else ((breaks_May_1.f kj56 x14_1 a0 t124).bind fun t148 => (if t148 = 45 then (if x2_1.length < 17592186044416 then (breaks_May.l0 kj56 (x2_1 ++ [1]) t124 (t124.length : Int) (wrap64 (x14_1 + 1)) a0 t124) else (none)) else ((breaks_May_1.f kj56 x14_1 a0 t124).bind fun t152 => ((chars_Script.f kj56 t152).bind fun t153 => (if t153 = 3 then ((breaks_May_1.f kj56 (wrap64 (x14_1 + 1)) a0 t124).bind fun t154 => ((chars_Script.f kj56 t154).bind fun t155 => (if t155 = 3 then (if x2_1.length < 17592186044416 then (breaks_May.l0 kj56 (x2_1 ++ [1]) t124 (t124.length : Int) (wrap64 (x14_1 + 1)) a0 t124) else (none)) else (if x2_1.length < 17592186044416 then (breaks_May.l0 kj56 (x2_1 ++ [0]) t124 (t124.length : Int) (wrap64 (x14_1 + 1)) a0 t124) else (none))))) else (if x2_1.length < 17592186044416 then (breaks_May.l0 kj56 (x2_1 ++ [0]) t124 (t124.length : Int) (wrap64 (x14_1 + 1)) a0 t124) else (none)))))))) = some r := by rw [if_neg (show ¬ (false = true) by decide)] at H; exact H
                              clear H
                              have H := H1
                              clear H1
                              by_cases c62 : t132 = 13
                              · rw [if_pos c62] at H
                                have c62b0 : (t132 == 13) = true := beq_iff_eq.mpr c62
                                have c62b1 : (t132 != 13) = false := bne_eq_false_iff_eq.mpr c62
                                clear c62
                                by_cases c63 : x2_1.length < 17592186044416
                                · rw [if_pos c63] at H
                                  have LMc63 := Aside0.mk c63
                                  clear c63
                                  obtain ⟨y145, hy145⟩ : ∃ y_ : List Int, y_ = (x2_1 ++ [0]) := ⟨_, rfl⟩
                                  replace H : (breaks_May.l0 kj56 y145 t124 (t124.length : Int) (wrap64 (x14_1 + 1)) a0 t124) = some r := by first | (rw [hy145]; with_reducible exact H) | (have H2_ := (Option.bind_some _ _).symm.trans H; rw [hy145]; with_reducible exact H2_) | (have H2_ := (Option.bind_some _ _).symm.trans H; with_reducible exact H2_) | with_reducible exact H | (rw [hy145]; exact H) | exact H
                                  have Ny145 := Aside0.mk hy145
                                  clear hy145
                                  have H' := Aside0.mk H
                                  clear H
                                  go_wp2_with (first | ((with_reducible refine gate_builtin (b := .append) (xs := #[.tmp 69, .tmp 70]) rfl ?_); at_builtin; refine Kd.R_append (Kd.int .i64) (w0 := w) w.heap.size rfl (.tmp 69) (.tmp 70) 22 3 (.int .i64 0) 8 rfl Try.underlying22 info3 rfl (by decide) (by omega) u2 x2_1 0 [.int .i64 0] (fun _ => True) (fun _ => False) rfl rfl ?aP (fun _ hk => hk.elim) ?aF ?aO ?aB ?aS ?aL ?_; (case aP => exact rfl); (case aB => exact (by repeat (first | (with_reducible first | exact HB.out | apply below_alloc | apply pw_below_drewN | apply below_drew1 | refine below_set ?_ GE123.out | refine below_set ?_ GE127.out | refine below_set ?_ GE129.out) | exact HB.out))); (case aF => exact (fun _ _ => trivial)); (case aO => exact (by (with_reducible repeat (first | apply Kd.R_alloc | apply Kd.R_drewN | apply Kd.R_drew)); exact HO_2.out)); (case aS => exact (below_size (by repeat (first | (with_reducible first | exact HB.out | apply below_alloc | apply pw_below_drewN | apply below_drew1 | refine below_set ?_ GE123.out | refine below_set ?_ GE127.out | refine below_set ?_ GE129.out) | exact HB.out)))); (case aL => have := LMc63.out; omega); intro v146 w64 ho hb hg hat; rw [← Ny145.out] at ho; have n0_ := Aside0.mk (Kd.R_over' (by (with_reducible repeat (first | apply Kd.R_alloc | apply Kd.R_drewN | apply Kd.R_drew)); exact HO_12.out) (Kd.R_typed (by (with_reducible repeat (first | apply Kd.R_alloc | apply Kd.R_drewN | apply Kd.R_drew)); exact HO_2.out)) (by decide) hg); have n1_ := Aside0.mk (Kd.R_over' (by (with_reducible repeat (first | apply Kd.R_alloc | apply Kd.R_drewN | apply Kd.R_drew)); exact HO_128000.out) (Kd.R_typed (by (with_reducible repeat (first | apply Kd.R_alloc | apply Kd.R_drewN | apply Kd.R_drew)); exact HO_2.out)) (by decide) hg); have n2_ := Aside0.mk (blk_grown (g := gb123) (o := .cells #[.string a0] 9 (0, 0)) (by (with_reducible repeat (first | refine blk_drewN ?_ _ | refine blk_drew ?_ | refine blk_alloc ?_ _)); exact BK123.out) hg (Kd.R_ne HO_2.out BK123.out (by decide))); have n3_ := Aside0.mk (blk_grown (g := gb127) (o := .cells #[.slice (some ad128) t124.length co7] 28 (0, 0)) (by (with_reducible repeat (first | refine blk_drewN ?_ _ | refine blk_drew ?_ | refine blk_alloc ?_ _)); exact BK127.out) hg (Kd.R_ne HO_2.out BK127.out (by decide))); have n4_ := Aside0.mk (blk_grown (g := gb129) (o := .cells #[.int .i64 ((rd_T33 t124 x14_1).f0), .int .i64 ((rd_T33 t124 x14_1).f1)] 33 (0, 0)) (by (with_reducible repeat (first | refine blk_drewN ?_ _ | refine blk_drew ?_ | refine blk_alloc ?_ _)); exact BK129.out) hg (Kd.R_ne HO_2.out BK129.out (by decide))); have n5_ := Aside0.mk (hb); have n6_ := Aside0.mk (ho); clear HO_12; clear HO_128000; clear BK123; clear BK127; clear BK129; clear HB; clear HO_2; have HO_12 := n0_; have HO_128000 := n1_; have BK123 := n2_; have BK127 := n3_; have BK129 := n4_; have HB := n5_; have HO147 := n6_; clear n0_ n1_ n2_ n3_ n4_ n5_ n6_; clear ho hb hg hat))
                                  go_roundg kj56
                                  case measure => have := HK1.out; have := HJ31.out; have := HJ56.out; omega
                                  case rel => exact ⟨(y145), (wrap64 (x14_1 + 1)), (by first | rfl | (simp; done) | (simp [*]; done)), H', ⟨by have := HK1.out; have := HJ31.out; have := HJ56.out; omega⟩, ⟨by (with_reducible repeat (first | apply Kd.R_alloc | apply Kd.R_drewN | apply Kd.R_drew)); exact HO147.out⟩, ⟨by (with_reducible repeat (first | apply Kd.R_alloc | apply Kd.R_drewN | apply Kd.R_drew)); exact Kd.R_mono HO_12.out (fun _ hk => trivial)⟩, ⟨by (with_reducible repeat (first | apply Kd.R_alloc | apply Kd.R_drewN | apply Kd.R_drew)); exact Kd.R_mono HO_128000.out (fun _ hk => trivial)⟩, ⟨by (with_reducible repeat (first | refine blk_drewN ?_ _ | refine blk_drew ?_ | refine blk_alloc ?_ _)); exact BK123.out⟩, ⟨by (with_reducible repeat (first | refine blk_drewN ?_ _ | refine blk_drew ?_ | refine blk_alloc ?_ _)); exact BK127.out⟩, ⟨by repeat (first | (with_reducible first | exact HB.out | apply below_alloc | apply pw_below_drewN | apply below_drew1 | refine below_set ?_ GE123.out | refine below_set ?_ GE127.out | refine below_set ?_ GE129.out) | exact HB.out)⟩⟩
                                · rw [if_neg c63] at H
                                  exact absurd H (by simp)
                              · rw [if_neg c62] at H
                                have c62b0 : (t132 == 13) = false := beq_eq_false_iff_ne.mpr c62
                                have c62b1 : (t132 != 13) = true := bne_iff_ne.mpr c62
                                replace H := Option.bind_eq_some_iff.mp H
                                obtain ⟨t148, A650, H⟩ := H
                                replace H : (if t148 = 45 then (if x2_1.length < 17592186044416 then (breaks_May.l0 kj56 (x2_1 ++ [1]) t124 (t124.length : Int) (wrap64 (x14_1 + 1)) a0 t124) else (none)) else ((breaks_May_1.f kj56 x14_1 a0 t124).bind fun t152 => ((chars_Script.f kj56 t152).bind fun t153 => (if t153 = 3 then ((breaks_May_1.f kj56 (wrap64 (x14_1 + 1)) a0 t124).bind fun t154 => ((chars_Script.f kj56 t154).bind fun t155 => (if t155 = 3 then (if x2_1.length < 17592186044416 then (breaks_May.l0 kj56 (x2_1 ++ [1]) t124 (t124.length : Int) (wrap64 (x14_1 + 1)) a0 t124) else (none)) else (if x2_1.length < 17592186044416 then (breaks_May.l0 kj56 (x2_1 ++ [0]) t124 (t124.length : Int) (wrap64 (x14_1 + 1)) a0 t124) else (none))))) else (if x2_1.length < 17592186044416 then (breaks_May.l0 kj56 (x2_1 ++ [0]) t124 (t124.length : Int) (wrap64 (x14_1 + 1)) a0 t124) else (none)))))) = some r := H
                                have A65 := Aside0.mk A650
                                clear A650
                                by_cases c66 : t148 = 45
                                · rw [if_pos c66] at H
                                  have c66b0 : (t148 == 45) = true := beq_iff_eq.mpr c66
                                  have c66b1 : (t148 != 45) = false := bne_eq_false_iff_eq.mpr c66
                                  clear c66
                                  by_cases c67 : x2_1.length < 17592186044416
                                  · rw [if_pos c67] at H
                                    have LMc67 := Aside0.mk c67
                                    clear c67
                                    obtain ⟨y149, hy149⟩ : ∃ y_ : List Int, y_ = (x2_1 ++ [1]) := ⟨_, rfl⟩
                                    replace H : (breaks_May.l0 kj56 y149 t124 (t124.length : Int) (wrap64 (x14_1 + 1)) a0 t124) = some r := by first | (rw [hy149]; with_reducible exact H) | (have H2_ := (Option.bind_some _ _).symm.trans H; rw [hy149]; with_reducible exact H2_) | (have H2_ := (Option.bind_some _ _).symm.trans H; with_reducible exact H2_) | with_reducible exact H | (rw [hy149]; exact H) | exact H
                                    have Ny149 := Aside0.mk hy149
                                    clear hy149
                                    have H' := Aside0.mk H
                                    clear H
                                    go_wp2_with (first | (go_at_call 24; (with_reducible refine (breaks_May_1.calls kj56 x14_1 a0 (some ad128) co7 t124 t148 _ ?side1 ?side2 ?side3 ?side4 ?side5 A65.out).mono ?_); (case side1 => repeat (first | exact (Kd.R_reads' HO_128000.out).2.2 | (with_reducible refine Kd.C_alloc ?_ _) | (with_reducible refine Kd.C_drewN ?_ _) | (with_reducible refine Kd.C_drew ?_))); (case side2 => exact (Kd.R_reads' HO_128000.out).2.1); (case side3 => exact (show _ from by (with_reducible repeat (first | refine blk_drewN ?_ _ | refine blk_drew ?_ | refine blk_alloc ?_ _)); exact BK123.out)); (case side4 => exact (show _ from by (with_reducible repeat (first | refine blk_drewN ?_ _ | refine blk_drew ?_ | refine blk_alloc ?_ _)); exact BK127.out)); (case side5 => exact NB123_127.out); rintro e w68 ⟨rfl, hb⟩; have n0_ := Aside0.mk (Kd.R_below (by (with_reducible repeat (first | apply Kd.R_alloc | apply Kd.R_drewN | apply Kd.R_drew)); exact HO_2.out) hb); have n1_ := Aside0.mk (Kd.R_below (by (with_reducible repeat (first | apply Kd.R_alloc | apply Kd.R_drewN | apply Kd.R_drew)); exact HO_12.out) hb); have n2_ := Aside0.mk (Kd.R_below (by (with_reducible repeat (first | apply Kd.R_alloc | apply Kd.R_drewN | apply Kd.R_drew)); exact HO_128000.out) hb); have n3_ := Aside0.mk (blk_below (g := gb123) (o := .cells #[.string a0] 9 (0, 0)) (by (with_reducible repeat (first | refine blk_drewN ?_ _ | refine blk_drew ?_ | refine blk_alloc ?_ _)); exact BK123.out) hb); have n4_ := Aside0.mk (blk_below (g := gb127) (o := .cells #[.slice (some ad128) t124.length co7] 28 (0, 0)) (by (with_reducible repeat (first | refine blk_drewN ?_ _ | refine blk_drew ?_ | refine blk_alloc ?_ _)); exact BK127.out) hb); have n5_ := Aside0.mk (blk_below (g := gb129) (o := .cells #[.int .i64 ((rd_T33 t124 x14_1).f0), .int .i64 ((rd_T33 t124 x14_1).f1)] 33 (0, 0)) (by (with_reducible repeat (first | refine blk_drewN ?_ _ | refine blk_drew ?_ | refine blk_alloc ?_ _)); exact BK129.out) hb); have n6_ := Aside0.mk (below_step (by repeat (first | (with_reducible first | exact HB.out | apply below_alloc | apply pw_below_drewN | apply below_drew1 | refine below_set ?_ GE123.out | refine below_set ?_ GE127.out | refine below_set ?_ GE129.out) | exact HB.out)) hb); clear HO_2; clear HO_12; clear HO_128000; clear BK123; clear BK127; clear BK129; clear HB; have HO_2 := n0_; have HO_12 := n1_; have HO_128000 := n2_; have BK123 := n3_; have BK127 := n4_; have BK129 := n5_; have HB := n6_; clear n0_ n1_ n2_ n3_ n4_ n5_ n6_; (try clear hb); (try clear hb2); (try clear hk); (try clear hi)) | ((with_reducible refine gate_builtin (b := .append) (xs := #[.tmp 92, .tmp 93]) rfl ?_); at_builtin; refine Kd.R_append (Kd.int .i64) (w0 := w) w.heap.size rfl (.tmp 92) (.tmp 93) 22 3 (.int .i64 0) 8 rfl Try.underlying22 info3 rfl (by decide) (by omega) u2 x2_1 1 [.int .i64 1] (fun _ => True) (fun _ => False) rfl rfl ?aP (fun _ hk => hk.elim) ?aF ?aO ?aB ?aS ?aL ?_; (case aP => exact rfl); (case aB => exact (by repeat (first | (with_reducible first | exact HB.out | apply below_alloc | apply pw_below_drewN | apply below_drew1 | refine below_set ?_ GE123.out | refine below_set ?_ GE127.out | refine below_set ?_ GE129.out) | exact HB.out))); (case aF => exact (fun _ _ => trivial)); (case aO => exact (by (with_reducible repeat (first | apply Kd.R_alloc | apply Kd.R_drewN | apply Kd.R_drew)); exact HO_2.out)); (case aS => exact (below_size (by repeat (first | (with_reducible first | exact HB.out | apply below_alloc | apply pw_below_drewN | apply below_drew1 | refine below_set ?_ GE123.out | refine below_set ?_ GE127.out | refine below_set ?_ GE129.out) | exact HB.out)))); (case aL => have := LMc67.out; omega); intro v150 w69 ho hb hg hat; rw [← Ny149.out] at ho; have n0_ := Aside0.mk (Kd.R_over' (by (with_reducible repeat (first | apply Kd.R_alloc | apply Kd.R_drewN | apply Kd.R_drew)); exact HO_12.out) (Kd.R_typed (by (with_reducible repeat (first | apply Kd.R_alloc | apply Kd.R_drewN | apply Kd.R_drew)); exact HO_2.out)) (by decide) hg); have n1_ := Aside0.mk (Kd.R_over' (by (with_reducible repeat (first | apply Kd.R_alloc | apply Kd.R_drewN | apply Kd.R_drew)); exact HO_128000.out) (Kd.R_typed (by (with_reducible repeat (first | apply Kd.R_alloc | apply Kd.R_drewN | apply Kd.R_drew)); exact HO_2.out)) (by decide) hg); have n2_ := Aside0.mk (blk_grown (g := gb123) (o := .cells #[.string a0] 9 (0, 0)) (by (with_reducible repeat (first | refine blk_drewN ?_ _ | refine blk_drew ?_ | refine blk_alloc ?_ _)); exact BK123.out) hg (Kd.R_ne HO_2.out BK123.out (by decide))); have n3_ := Aside0.mk (blk_grown (g := gb127) (o := .cells #[.slice (some ad128) t124.length co7] 28 (0, 0)) (by (with_reducible repeat (first | refine blk_drewN ?_ _ | refine blk_drew ?_ | refine blk_alloc ?_ _)); exact BK127.out) hg (Kd.R_ne HO_2.out BK127.out (by decide))); have n4_ := Aside0.mk (blk_grown (g := gb129) (o := .cells #[.int .i64 ((rd_T33 t124 x14_1).f0), .int .i64 ((rd_T33 t124 x14_1).f1)] 33 (0, 0)) (by (with_reducible repeat (first | refine blk_drewN ?_ _ | refine blk_drew ?_ | refine blk_alloc ?_ _)); exact BK129.out) hg (Kd.R_ne HO_2.out BK129.out (by decide))); have n5_ := Aside0.mk (hb); have n6_ := Aside0.mk (ho); clear HO_12; clear HO_128000; clear BK123; clear BK127; clear BK129; clear HB; clear HO_2; have HO_12 := n0_; have HO_128000 := n1_; have BK123 := n2_; have BK127 := n3_; have BK129 := n4_; have HB := n5_; have HO151 := n6_; clear n0_ n1_ n2_ n3_ n4_ n5_ n6_; clear ho hb hg hat))
                                    go_roundg kj56
                                    case measure => have := HK1.out; have := HJ31.out; have := HJ56.out; omega
                                    case rel => exact ⟨(y149), (wrap64 (x14_1 + 1)), (by first | rfl | (simp; done) | (simp [*]; done)), H', ⟨by have := HK1.out; have := HJ31.out; have := HJ56.out; omega⟩, ⟨by (with_reducible repeat (first | apply Kd.R_alloc | apply Kd.R_drewN | apply Kd.R_drew)); exact HO151.out⟩, ⟨by (with_reducible repeat (first | apply Kd.R_alloc | apply Kd.R_drewN | apply Kd.R_drew)); exact Kd.R_mono HO_12.out (fun _ hk => trivial)⟩, ⟨by (with_reducible repeat (first | apply Kd.R_alloc | apply Kd.R_drewN | apply Kd.R_drew)); exact Kd.R_mono HO_128000.out (fun _ hk => trivial)⟩, ⟨by (with_reducible repeat (first | refine blk_drewN ?_ _ | refine blk_drew ?_ | refine blk_alloc ?_ _)); exact BK123.out⟩, ⟨by (with_reducible repeat (first | refine blk_drewN ?_ _ | refine blk_drew ?_ | refine blk_alloc ?_ _)); exact BK127.out⟩, ⟨by repeat (first | (with_reducible first | exact HB.out | apply below_alloc | apply pw_below_drewN | apply below_drew1 | refine below_set ?_ GE123.out | refine below_set ?_ GE127.out | refine below_set ?_ GE129.out) | exact HB.out)⟩⟩
                                  · rw [if_neg c67] at H
                                    exact absurd H (by simp)
                                · rw [if_neg c66] at H
                                  have c66b0 : (t148 == 45) = false := beq_eq_false_iff_ne.mpr c66
                                  have c66b1 : (t148 != 45) = true := bne_iff_ne.mpr c66
                                  replace H := Option.bind_eq_some_iff.mp H
                                  obtain ⟨t152, A700, H⟩ := H
                                  replace H : ((chars_Script.f kj56 t152).bind fun t153 => (if t153 = 3 then ((breaks_May_1.f kj56 (wrap64 (x14_1 + 1)) a0 t124).bind fun t154 => ((chars_Script.f kj56 t154).bind fun t155 => (if t155 = 3 then (if x2_1.length < 17592186044416 then (breaks_May.l0 kj56 (x2_1 ++ [1]) t124 (t124.length : Int) (wrap64 (x14_1 + 1)) a0 t124) else (none)) else (if x2_1.length < 17592186044416 then (breaks_May.l0 kj56 (x2_1 ++ [0]) t124 (t124.length : Int) (wrap64 (x14_1 + 1)) a0 t124) else (none))))) else (if x2_1.length < 17592186044416 then (breaks_May.l0 kj56 (x2_1 ++ [0]) t124 (t124.length : Int) (wrap64 (x14_1 + 1)) a0 t124) else (none)))) = some r := H
                                  have A70 := Aside0.mk A700
                                  clear A700
                                  have EA70 : t148 = t152 := Option.some.inj (A65.out.symm.trans A70.out)
                                  obtain rfl := EA70
                                  replace H := Option.bind_eq_some_iff.mp H
                                  obtain ⟨t153, A710, H⟩ := H
                                  replace H : (if t153 = 3 then ((breaks_May_1.f kj56 (wrap64 (x14_1 + 1)) a0 t124).bind fun t154 => ((chars_Script.f kj56 t154).bind fun t155 => (if t155 = 3 then (if x2_1.length < 17592186044416 then (breaks_May.l0 kj56 (x2_1 ++ [1]) t124 (t124.length : Int) (wrap64 (x14_1 + 1)) a0 t124) else (none)) else (if x2_1.length < 17592186044416 then (breaks_May.l0 kj56 (x2_1 ++ [0]) t124 (t124.length : Int) (wrap64 (x14_1 + 1)) a0 t124) else (none))))) else (if x2_1.length < 17592186044416 then (breaks_May.l0 kj56 (x2_1 ++ [0]) t124 (t124.length : Int) (wrap64 (x14_1 + 1)) a0 t124) else (none))) = some r := H
                                  have A71 := Aside0.mk A710
                                  clear A710
                                  by_cases c72 : t153 = 3
                                  · rw [if_pos c72] at H
                                    have c72b0 : (t153 == 3) = true := beq_iff_eq.mpr c72
                                    have c72b1 : (t153 != 3) = false := bne_eq_false_iff_eq.mpr c72
                                    clear c72
                                    replace H := Option.bind_eq_some_iff.mp H
                                    obtain ⟨t154, A730, H⟩ := H
                                    replace H : ((chars_Script.f kj56 t154).bind fun t155 => (if t155 = 3 then (if x2_1.length < 17592186044416 then (breaks_May.l0 kj56 (x2_1 ++ [1]) t124 (t124.length : Int) (wrap64 (x14_1 + 1)) a0 t124) else (none)) else (if x2_1.length < 17592186044416 then (breaks_May.l0 kj56 (x2_1 ++ [0]) t124 (t124.length : Int) (wrap64 (x14_1 + 1)) a0 t124) else (none)))) = some r := H
                                    have A73 := Aside0.mk A730
                                    clear A730
                                    replace H := Option.bind_eq_some_iff.mp H
                                    obtain ⟨t155, A740, H⟩ := H
                                    replace H : (if t155 = 3 then (if x2_1.length < 17592186044416 then (breaks_May.l0 kj56 (x2_1 ++ [1]) t124 (t124.length : Int) (wrap64 (x14_1 + 1)) a0 t124) else (none)) else (if x2_1.length < 17592186044416 then (breaks_May.l0 kj56 (x2_1 ++ [0]) t124 (t124.length : Int) (wrap64 (x14_1 + 1)) a0 t124) else (none))) = some r := H
                                    have A74 := Aside0.mk A740
                                    clear A740
                                    by_cases c75 : t155 = 3
                                    · rw [if_pos c75] at H
                                      have c75b0 : (t155 == 3) = true := beq_iff_eq.mpr c75
                                      have c75b1 : (t155 != 3) = false := bne_eq_false_iff_eq.mpr c75
                                      clear c75
                                      by_cases c76 : x2_1.length < 17592186044416
                                      · rw [if_pos c76] at H
                                        have LMc76 := Aside0.mk c76
                                        clear c76
                                        obtain ⟨y156, hy156⟩ : ∃ y_ : List Int, y_ = (x2_1 ++ [1]) := ⟨_, rfl⟩
                                        replace H : (breaks_May.l0 kj56 y156 t124 (t124.length : Int) (wrap64 (x14_1 + 1)) a0 t124) = some r := by first | (rw [hy156]; with_reducible exact H) | (have H2_ := (Option.bind_some _ _).symm.trans H; rw [hy156]; with_reducible exact H2_) | (have H2_ := (Option.bind_some _ _).symm.trans H; with_reducible exact H2_) | with_reducible exact H | (rw [hy156]; exact H) | exact H
                                        have Ny156 := Aside0.mk hy156
                                        clear hy156
                                        have H' := Aside0.mk H
                                        clear H
                                        go_wp2_with (first | (go_at_call 24; (with_reducible refine (breaks_May_1.calls kj56 x14_1 a0 (some ad128) co7 t124 t148 _ ?side1 ?side2 ?side3 ?side4 ?side5 A65.out).mono ?_); (case side1 => repeat (first | exact (Kd.R_reads' HO_128000.out).2.2 | (with_reducible refine Kd.C_alloc ?_ _) | (with_reducible refine Kd.C_drewN ?_ _) | (with_reducible refine Kd.C_drew ?_))); (case side2 => exact (Kd.R_reads' HO_128000.out).2.1); (case side3 => exact (show _ from by (with_reducible repeat (first | refine blk_drewN ?_ _ | refine blk_drew ?_ | refine blk_alloc ?_ _)); exact BK123.out)); (case side4 => exact (show _ from by (with_reducible repeat (first | refine blk_drewN ?_ _ | refine blk_drew ?_ | refine blk_alloc ?_ _)); exact BK127.out)); (case side5 => exact NB123_127.out); rintro e w77 ⟨rfl, hb⟩; have n0_ := Aside0.mk (Kd.R_below (by (with_reducible repeat (first | apply Kd.R_alloc | apply Kd.R_drewN | apply Kd.R_drew)); exact HO_2.out) hb); have n1_ := Aside0.mk (Kd.R_below (by (with_reducible repeat (first | apply Kd.R_alloc | apply Kd.R_drewN | apply Kd.R_drew)); exact HO_12.out) hb); have n2_ := Aside0.mk (Kd.R_below (by (with_reducible repeat (first | apply Kd.R_alloc | apply Kd.R_drewN | apply Kd.R_drew)); exact HO_128000.out) hb); have n3_ := Aside0.mk (blk_below (g := gb123) (o := .cells #[.string a0] 9 (0, 0)) (by (with_reducible repeat (first | refine blk_drewN ?_ _ | refine blk_drew ?_ | refine blk_alloc ?_ _)); exact BK123.out) hb); have n4_ := Aside0.mk (blk_below (g := gb127) (o := .cells #[.slice (some ad128) t124.length co7] 28 (0, 0)) (by (with_reducible repeat (first | refine blk_drewN ?_ _ | refine blk_drew ?_ | refine blk_alloc ?_ _)); exact BK127.out) hb); have n5_ := Aside0.mk (blk_below (g := gb129) (o := .cells #[.int .i64 ((rd_T33 t124 x14_1).f0), .int .i64 ((rd_T33 t124 x14_1).f1)] 33 (0, 0)) (by (with_reducible repeat (first | refine blk_drewN ?_ _ | refine blk_drew ?_ | refine blk_alloc ?_ _)); exact BK129.out) hb); have n6_ := Aside0.mk (below_step (by repeat (first | (with_reducible first | exact HB.out | apply below_alloc | apply pw_below_drewN | apply below_drew1 | refine below_set ?_ GE123.out | refine below_set ?_ GE127.out | refine below_set ?_ GE129.out) | exact HB.out)) hb); clear HO_2; clear HO_12; clear HO_128000; clear BK123; clear BK127; clear BK129; clear HB; have HO_2 := n0_; have HO_12 := n1_; have HO_128000 := n2_; have BK123 := n3_; have BK127 := n4_; have BK129 := n5_; have HB := n6_; clear n0_ n1_ n2_ n3_ n4_ n5_ n6_; (try clear hb); (try clear hb2); (try clear hk); (try clear hi)) | (go_at_call 24; (with_reducible refine (breaks_May_1.calls kj56 x14_1 a0 (some ad128) co7 t124 t148 _ ?side1 ?side2 ?side3 ?side4 ?side5 A70.out).mono ?_); (case side1 => repeat (first | exact (Kd.R_reads' HO_128000.out).2.2 | (with_reducible refine Kd.C_alloc ?_ _) | (with_reducible refine Kd.C_drewN ?_ _) | (with_reducible refine Kd.C_drew ?_))); (case side2 => exact (Kd.R_reads' HO_128000.out).2.1); (case side3 => exact (show _ from by (with_reducible repeat (first | refine blk_drewN ?_ _ | refine blk_drew ?_ | refine blk_alloc ?_ _)); exact BK123.out)); (case side4 => exact (show _ from by (with_reducible repeat (first | refine blk_drewN ?_ _ | refine blk_drew ?_ | refine blk_alloc ?_ _)); exact BK127.out)); (case side5 => exact NB123_127.out); rintro e w78 ⟨rfl, hb⟩; have n0_ := Aside0.mk (Kd.R_below (by (with_reducible repeat (first | apply Kd.R_alloc | apply Kd.R_drewN | apply Kd.R_drew)); exact HO_2.out) hb); have n1_ := Aside0.mk (Kd.R_below (by (with_reducible repeat (first | apply Kd.R_alloc | apply Kd.R_drewN | apply Kd.R_drew)); exact HO_12.out) hb); have n2_ := Aside0.mk (Kd.R_below (by (with_reducible repeat (first | apply Kd.R_alloc | apply Kd.R_drewN | apply Kd.R_drew)); exact HO_128000.out) hb); have n3_ := Aside0.mk (blk_below (g := gb123) (o := .cells #[.string a0] 9 (0, 0)) (by (with_reducible repeat (first | refine blk_drewN ?_ _ | refine blk_drew ?_ | refine blk_alloc ?_ _)); exact BK123.out) hb); have n4_ := Aside0.mk (blk_below (g := gb127) (o := .cells #[.slice (some ad128) t124.length co7] 28 (0, 0)) (by (with_reducible repeat (first | refine blk_drewN ?_ _ | refine blk_drew ?_ | refine blk_alloc ?_ _)); exact BK127.out) hb); have n5_ := Aside0.mk (blk_below (g := gb129) (o := .cells #[.int .i64 ((rd_T33 t124 x14_1).f0), .int .i64 ((rd_T33 t124 x14_1).f1)] 33 (0, 0)) (by (with_reducible repeat (first | refine blk_drewN ?_ _ | refine blk_drew ?_ | refine blk_alloc ?_ _)); exact BK129.out) hb); have n6_ := Aside0.mk (below_step (by repeat (first | (with_reducible first | exact HB.out | apply below_alloc | apply pw_below_drewN | apply below_drew1 | refine below_set ?_ GE123.out | refine below_set ?_ GE127.out | refine below_set ?_ GE129.out) | exact HB.out)) hb); clear HO_2; clear HO_12; clear HO_128000; clear BK123; clear BK127; clear BK129; clear HB; have HO_2 := n0_; have HO_12 := n1_; have HO_128000 := n2_; have BK123 := n3_; have BK127 := n4_; have BK129 := n5_; have HB := n6_; clear n0_ n1_ n2_ n3_ n4_ n5_ n6_; (try clear hb); (try clear hb2); (try clear hk); (try clear hi)) | (go_at_call 26; (with_reducible refine (chars_Script.calls kj56 t148 t153 _ A71.out).mono ?_); rintro e w79 ⟨rfl, hb⟩; have n0_ := Aside0.mk (Kd.R_below (by (with_reducible repeat (first | apply Kd.R_alloc | apply Kd.R_drewN | apply Kd.R_drew)); exact HO_2.out) hb); have n1_ := Aside0.mk (Kd.R_below (by (with_reducible repeat (first | apply Kd.R_alloc | apply Kd.R_drewN | apply Kd.R_drew)); exact HO_12.out) hb); have n2_ := Aside0.mk (Kd.R_below (by (with_reducible repeat (first | apply Kd.R_alloc | apply Kd.R_drewN | apply Kd.R_drew)); exact HO_128000.out) hb); have n3_ := Aside0.mk (blk_below (g := gb123) (o := .cells #[.string a0] 9 (0, 0)) (by (with_reducible repeat (first | refine blk_drewN ?_ _ | refine blk_drew ?_ | refine blk_alloc ?_ _)); exact BK123.out) hb); have n4_ := Aside0.mk (blk_below (g := gb127) (o := .cells #[.slice (some ad128) t124.length co7] 28 (0, 0)) (by (with_reducible repeat (first | refine blk_drewN ?_ _ | refine blk_drew ?_ | refine blk_alloc ?_ _)); exact BK127.out) hb); have n5_ := Aside0.mk (blk_below (g := gb129) (o := .cells #[.int .i64 ((rd_T33 t124 x14_1).f0), .int .i64 ((rd_T33 t124 x14_1).f1)] 33 (0, 0)) (by (with_reducible repeat (first | refine blk_drewN ?_ _ | refine blk_drew ?_ | refine blk_alloc ?_ _)); exact BK129.out) hb); have n6_ := Aside0.mk (below_step (by repeat (first | (with_reducible first | exact HB.out | apply below_alloc | apply pw_below_drewN | apply below_drew1 | refine below_set ?_ GE123.out | refine below_set ?_ GE127.out | refine below_set ?_ GE129.out) | exact HB.out)) hb); clear HO_2; clear HO_12; clear HO_128000; clear BK123; clear BK127; clear BK129; clear HB; have HO_2 := n0_; have HO_12 := n1_; have HO_128000 := n2_; have BK123 := n3_; have BK127 := n4_; have BK129 := n5_; have HB := n6_; clear n0_ n1_ n2_ n3_ n4_ n5_ n6_; (try clear hb); (try clear hb2); (try clear hk); (try clear hi)) | (go_at_call 24; (with_reducible refine (breaks_May_1.calls kj56 (wrap64 (x14_1 + 1)) a0 (some ad128) co7 t124 t154 _ ?side1 ?side2 ?side3 ?side4 ?side5 A73.out).mono ?_); (case side1 => repeat (first | exact (Kd.R_reads' HO_128000.out).2.2 | (with_reducible refine Kd.C_alloc ?_ _) | (with_reducible refine Kd.C_drewN ?_ _) | (with_reducible refine Kd.C_drew ?_))); (case side2 => exact (Kd.R_reads' HO_128000.out).2.1); (case side3 => exact (show _ from by (with_reducible repeat (first | refine blk_drewN ?_ _ | refine blk_drew ?_ | refine blk_alloc ?_ _)); exact BK123.out)); (case side4 => exact (show _ from by (with_reducible repeat (first | refine blk_drewN ?_ _ | refine blk_drew ?_ | refine blk_alloc ?_ _)); exact BK127.out)); (case side5 => exact NB123_127.out); rintro e w80 ⟨rfl, hb⟩; have n0_ := Aside0.mk (Kd.R_below (by (with_reducible repeat (first | apply Kd.R_alloc | apply Kd.R_drewN | apply Kd.R_drew)); exact HO_2.out) hb); have n1_ := Aside0.mk (Kd.R_below (by (with_reducible repeat (first | apply Kd.R_alloc | apply Kd.R_drewN | apply Kd.R_drew)); exact HO_12.out) hb); have n2_ := Aside0.mk (Kd.R_below (by (with_reducible repeat (first | apply Kd.R_alloc | apply Kd.R_drewN | apply Kd.R_drew)); exact HO_128000.out) hb); have n3_ := Aside0.mk (blk_below (g := gb123) (o := .cells #[.string a0] 9 (0, 0)) (by (with_reducible repeat (first | refine blk_drewN ?_ _ | refine blk_drew ?_ | refine blk_alloc ?_ _)); exact BK123.out) hb); have n4_ := Aside0.mk (blk_below (g := gb127) (o := .cells #[.slice (some ad128) t124.length co7] 28 (0, 0)) (by (with_reducible repeat (first | refine blk_drewN ?_ _ | refine blk_drew ?_ | refine blk_alloc ?_ _)); exact BK127.out) hb); have n5_ := Aside0.mk (blk_below (g := gb129) (o := .cells #[.int .i64 ((rd_T33 t124 x14_1).f0), .int .i64 ((rd_T33 t124 x14_1).f1)] 33 (0, 0)) (by (with_reducible repeat (first | refine blk_drewN ?_ _ | refine blk_drew ?_ | refine blk_alloc ?_ _)); exact BK129.out) hb); have n6_ := Aside0.mk (below_step (by repeat (first | (with_reducible first | exact HB.out | apply below_alloc | apply pw_below_drewN | apply below_drew1 | refine below_set ?_ GE123.out | refine below_set ?_ GE127.out | refine below_set ?_ GE129.out) | exact HB.out)) hb); clear HO_2; clear HO_12; clear HO_128000; clear BK123; clear BK127; clear BK129; clear HB; have HO_2 := n0_; have HO_12 := n1_; have HO_128000 := n2_; have BK123 := n3_; have BK127 := n4_; have BK129 := n5_; have HB := n6_; clear n0_ n1_ n2_ n3_ n4_ n5_ n6_; (try clear hb); (try clear hb2); (try clear hk); (try clear hi)) | (go_at_call 26; (with_reducible refine (chars_Script.calls kj56 t154 t155 _ A74.out).mono ?_); rintro e w81 ⟨rfl, hb⟩; have n0_ := Aside0.mk (Kd.R_below (by (with_reducible repeat (first | apply Kd.R_alloc | apply Kd.R_drewN | apply Kd.R_drew)); exact HO_2.out) hb); have n1_ := Aside0.mk (Kd.R_below (by (with_reducible repeat (first | apply Kd.R_alloc | apply Kd.R_drewN | apply Kd.R_drew)); exact HO_12.out) hb); have n2_ := Aside0.mk (Kd.R_below (by (with_reducible repeat (first | apply Kd.R_alloc | apply Kd.R_drewN | apply Kd.R_drew)); exact HO_128000.out) hb); have n3_ := Aside0.mk (blk_below (g := gb123) (o := .cells #[.string a0] 9 (0, 0)) (by (with_reducible repeat (first | refine blk_drewN ?_ _ | refine blk_drew ?_ | refine blk_alloc ?_ _)); exact BK123.out) hb); have n4_ := Aside0.mk (blk_below (g := gb127) (o := .cells #[.slice (some ad128) t124.length co7] 28 (0, 0)) (by (with_reducible repeat (first | refine blk_drewN ?_ _ | refine blk_drew ?_ | refine blk_alloc ?_ _)); exact BK127.out) hb); have n5_ := Aside0.mk (blk_below (g := gb129) (o := .cells #[.int .i64 ((rd_T33 t124 x14_1).f0), .int .i64 ((rd_T33 t124 x14_1).f1)] 33 (0, 0)) (by (with_reducible repeat (first | refine blk_drewN ?_ _ | refine blk_drew ?_ | refine blk_alloc ?_ _)); exact BK129.out) hb); have n6_ := Aside0.mk (below_step (by repeat (first | (with_reducible first | exact HB.out | apply below_alloc | apply pw_below_drewN | apply below_drew1 | refine below_set ?_ GE123.out | refine below_set ?_ GE127.out | refine below_set ?_ GE129.out) | exact HB.out)) hb); clear HO_2; clear HO_12; clear HO_128000; clear BK123; clear BK127; clear BK129; clear HB; have HO_2 := n0_; have HO_12 := n1_; have HO_128000 := n2_; have BK123 := n3_; have BK127 := n4_; have BK129 := n5_; have HB := n6_; clear n0_ n1_ n2_ n3_ n4_ n5_ n6_; (try clear hb); (try clear hb2); (try clear hk); (try clear hi)) | ((with_reducible refine gate_builtin (b := .append) (xs := #[.tmp 92, .tmp 93]) rfl ?_); at_builtin; refine Kd.R_append (Kd.int .i64) (w0 := w) w.heap.size rfl (.tmp 92) (.tmp 93) 22 3 (.int .i64 0) 8 rfl Try.underlying22 info3 rfl (by decide) (by omega) u2 x2_1 1 [.int .i64 1] (fun _ => True) (fun _ => False) rfl rfl ?aP (fun _ hk => hk.elim) ?aF ?aO ?aB ?aS ?aL ?_; (case aP => exact rfl); (case aB => exact (by repeat (first | (with_reducible first | exact HB.out | apply below_alloc | apply pw_below_drewN | apply below_drew1 | refine below_set ?_ GE123.out | refine below_set ?_ GE127.out | refine below_set ?_ GE129.out) | exact HB.out))); (case aF => exact (fun _ _ => trivial)); (case aO => exact (by (with_reducible repeat (first | apply Kd.R_alloc | apply Kd.R_drewN | apply Kd.R_drew)); exact HO_2.out)); (case aS => exact (below_size (by repeat (first | (with_reducible first | exact HB.out | apply below_alloc | apply pw_below_drewN | apply below_drew1 | refine below_set ?_ GE123.out | refine below_set ?_ GE127.out | refine below_set ?_ GE129.out) | exact HB.out)))); (case aL => have := LMc76.out; omega); intro v157 w82 ho hb hg hat; rw [← Ny156.out] at ho; have n0_ := Aside0.mk (Kd.R_over' (by (with_reducible repeat (first | apply Kd.R_alloc | apply Kd.R_drewN | apply Kd.R_drew)); exact HO_12.out) (Kd.R_typed (by (with_reducible repeat (first | apply Kd.R_alloc | apply Kd.R_drewN | apply Kd.R_drew)); exact HO_2.out)) (by decide) hg); have n1_ := Aside0.mk (Kd.R_over' (by (with_reducible repeat (first | apply Kd.R_alloc | apply Kd.R_drewN | apply Kd.R_drew)); exact HO_128000.out) (Kd.R_typed (by (with_reducible repeat (first | apply Kd.R_alloc | apply Kd.R_drewN | apply Kd.R_drew)); exact HO_2.out)) (by decide) hg); have n2_ := Aside0.mk (blk_grown (g := gb123) (o := .cells #[.string a0] 9 (0, 0)) (by (with_reducible repeat (first | refine blk_drewN ?_ _ | refine blk_drew ?_ | refine blk_alloc ?_ _)); exact BK123.out) hg (Kd.R_ne HO_2.out BK123.out (by decide))); have n3_ := Aside0.mk (blk_grown (g := gb127) (o := .cells #[.slice (some ad128) t124.length co7] 28 (0, 0)) (by (with_reducible repeat (first | refine blk_drewN ?_ _ | refine blk_drew ?_ | refine blk_alloc ?_ _)); exact BK127.out) hg (Kd.R_ne HO_2.out BK127.out (by decide))); have n4_ := Aside0.mk (blk_grown (g := gb129) (o := .cells #[.int .i64 ((rd_T33 t124 x14_1).f0), .int .i64 ((rd_T33 t124 x14_1).f1)] 33 (0, 0)) (by (with_reducible repeat (first | refine blk_drewN ?_ _ | refine blk_drew ?_ | refine blk_alloc ?_ _)); exact BK129.out) hg (Kd.R_ne HO_2.out BK129.out (by decide))); have n5_ := Aside0.mk (hb); have n6_ := Aside0.mk (ho); clear HO_12; clear HO_128000; clear BK123; clear BK127; clear BK129; clear HB; clear HO_2; have HO_12 := n0_; have HO_128000 := n1_; have BK123 := n2_; have BK127 := n3_; have BK129 := n4_; have HB := n5_; have HO158 := n6_; clear n0_ n1_ n2_ n3_ n4_ n5_ n6_; clear ho hb hg hat))
                                        go_roundg kj56
                                        case measure => have := HK1.out; have := HJ31.out; have := HJ56.out; omega
                                        case rel => exact ⟨(y156), (wrap64 (x14_1 + 1)), (by first | rfl | (simp; done) | (simp [*]; done)), H', ⟨by have := HK1.out; have := HJ31.out; have := HJ56.out; omega⟩, ⟨by (with_reducible repeat (first | apply Kd.R_alloc | apply Kd.R_drewN | apply Kd.R_drew)); exact HO158.out⟩, ⟨by (with_reducible repeat (first | apply Kd.R_alloc | apply Kd.R_drewN | apply Kd.R_drew)); exact Kd.R_mono HO_12.out (fun _ hk => trivial)⟩, ⟨by (with_reducible repeat (first | apply Kd.R_alloc | apply Kd.R_drewN | apply Kd.R_drew)); exact Kd.R_mono HO_128000.out (fun _ hk => trivial)⟩, ⟨by (with_reducible repeat (first | refine blk_drewN ?_ _ | refine blk_drew ?_ | refine blk_alloc ?_ _)); exact BK123.out⟩, ⟨by (with_reducible repeat (first | refine blk_drewN ?_ _ | refine blk_drew ?_ | refine blk_alloc ?_ _)); exact BK127.out⟩, ⟨by repeat (first | (with_reducible first | exact HB.out | apply below_alloc | apply pw_below_drewN | apply below_drew1 | refine below_set ?_ GE123.out | refine below_set ?_ GE127.out | refine below_set ?_ GE129.out) | exact HB.out)⟩⟩
                                      · rw [if_neg c76] at H
                                        exact absurd H (by simp)
                                    · rw [if_neg c75] at H
                                      have c75b0 : (t155 == 3) = false := beq_eq_false_iff_ne.mpr c75
                                      have c75b1 : (t155 != 3) = true := bne_iff_ne.mpr c75
                                      by_cases c83 : x2_1.length < 17592186044416
                                      · rw [if_pos c83] at H
                                        have LMc83 := Aside0.mk c83
                                        clear c83
                                        obtain ⟨y159, hy159⟩ : ∃ y_ : List Int, y_ = (x2_1 ++ [0]) := ⟨_, rfl⟩
                                        replace H : (breaks_May.l0 kj56 y159 t124 (t124.length : Int) (wrap64 (x14_1 + 1)) a0 t124) = some r := by first | (rw [hy159]; with_reducible exact H) | (have H2_ := (Option.bind_some _ _).symm.trans H; rw [hy159]; with_reducible exact H2_) | (have H2_ := (Option.bind_some _ _).symm.trans H; with_reducible exact H2_) | with_reducible exact H | (rw [hy159]; exact H) | exact H
                                        have Ny159 := Aside0.mk hy159
                                        clear hy159
                                        have H' := Aside0.mk H
                                        clear H
                                        go_wp2_with (first | (go_at_call 24; (with_reducible refine (breaks_May_1.calls kj56 x14_1 a0 (some ad128) co7 t124 t148 _ ?side1 ?side2 ?side3 ?side4 ?side5 A65.out).mono ?_); (case side1 => repeat (first | exact (Kd.R_reads' HO_128000.out).2.2 | (with_reducible refine Kd.C_alloc ?_ _) | (with_reducible refine Kd.C_drewN ?_ _) | (with_reducible refine Kd.C_drew ?_))); (case side2 => exact (Kd.R_reads' HO_128000.out).2.1); (case side3 => exact (show _ from by (with_reducible repeat (first | refine blk_drewN ?_ _ | refine blk_drew ?_ | refine blk_alloc ?_ _)); exact BK123.out)); (case side4 => exact (show _ from by (with_reducible repeat (first | refine blk_drewN ?_ _ | refine blk_drew ?_ | refine blk_alloc ?_ _)); exact BK127.out)); (case side5 => exact NB123_127.out); rintro e w84 ⟨rfl, hb⟩; have n0_ := Aside0.mk (Kd.R_below (by (with_reducible repeat (first | apply Kd.R_alloc | apply Kd.R_drewN | apply Kd.R_drew)); exact HO_2.out) hb); have n1_ := Aside0.mk (Kd.R_below (by (with_reducible repeat (first | apply Kd.R_alloc | apply Kd.R_drewN | apply Kd.R_drew)); exact HO_12.out) hb); have n2_ := Aside0.mk (Kd.R_below (by (with_reducible repeat (first | apply Kd.R_alloc | apply Kd.R_drewN | apply Kd.R_drew)); exact HO_128000.out) hb); have n3_ := Aside0.mk (blk_below (g := gb123) (o := .cells #[.string a0] 9 (0, 0)) (by (with_reducible repeat (first | refine blk_drewN ?_ _ | refine blk_drew ?_ | refine blk_alloc ?_ _)); exact BK123.out) hb); have n4_ := Aside0.mk (blk_below (g := gb127) (o := .cells #[.slice (some ad128) t124.length co7] 28 (0, 0)) (by (with_reducible repeat (first | refine blk_drewN ?_ _ | refine blk_drew ?_ | refine blk_alloc ?_ _)); exact BK127.out) hb); have n5_ := Aside0.mk (blk_below (g := gb129) (o := .cells #[.int .i64 ((rd_T33 t124 x14_1).f0), .int .i64 ((rd_T33 t124 x14_1).f1)] 33 (0, 0)) (by (with_reducible repeat (first | refine blk_drewN ?_ _ | refine blk_drew ?_ | refine blk_alloc ?_ _)); exact BK129.out) hb); have n6_ := Aside0.mk (below_step (by repeat (first | (with_reducible first | exact HB.out | apply below_alloc | apply pw_below_drewN | apply below_drew1 | refine below_set ?_ GE123.out | refine below_set ?_ GE127.out | refine below_set ?_ GE129.out) | exact HB.out)) hb); clear HO_2; clear HO_12; clear HO_128000; clear BK123; clear BK127; clear BK129; clear HB; have HO_2 := n0_; have HO_12 := n1_; have HO_128000 := n2_; have BK123 := n3_; have BK127 := n4_; have BK129 := n5_; have HB := n6_; clear n0_ n1_ n2_ n3_ n4_ n5_ n6_; (try clear hb); (try clear hb2); (try clear hk); (try clear hi)) | (go_at_call 24; (with_reducible refine (breaks_May_1.calls kj56 x14_1 a0 (some ad128) co7 t124 t148 _ ?side1 ?side2 ?side3 ?side4 ?side5 A70.out).mono ?_); (case side1 => repeat (first | exact (Kd.R_reads' HO_128000.out).2.2 | (with_reducible refine Kd.C_alloc ?_ _) | (with_reducible refine Kd.C_drewN ?_ _) | (with_reducible refine Kd.C_drew ?_))); (case side2 => exact (Kd.R_reads' HO_128000.out).2.1); (case side3 => exact (show _ from by (with_reducible repeat (first | refine blk_drewN ?_ _ | refine blk_drew ?_ | refine blk_alloc ?_ _)); exact BK123.out)); (case side4 => exact (show _ from by (with_reducible repeat (first | refine blk_drewN ?_ _ | refine blk_drew ?_ | refine blk_alloc ?_ _)); exact BK127.out)); (case side5 => exact NB123_127.out); rintro e w85 ⟨rfl, hb⟩; have n0_ := Aside0.mk (Kd.R_below (by (with_reducible repeat (first | apply Kd.R_alloc | apply Kd.R_drewN | apply Kd.R_drew)); exact HO_2.out) hb); have n1_ := Aside0.mk (Kd.R_below (by (with_reducible repeat (first | apply Kd.R_alloc | apply Kd.R_drewN | apply Kd.R_drew)); exact HO_12.out) hb); have n2_ := Aside0.mk (Kd.R_below (by (with_reducible repeat (first | apply Kd.R_alloc | apply Kd.R_drewN | apply Kd.R_drew)); exact HO_128000.out) hb); have n3_ := Aside0.mk (blk_below (g := gb123) (o := .cells #[.string a0] 9 (0, 0)) (by (with_reducible repeat (first | refine blk_drewN ?_ _ | refine blk_drew ?_ | refine blk_alloc ?_ _)); exact BK123.out) hb); have n4_ := Aside0.mk (blk_below (g := gb127) (o := .cells #[.slice (some ad128) t124.length co7] 28 (0, 0)) (by (with_reducible repeat (first | refine blk_drewN ?_ _ | refine blk_drew ?_ | refine blk_alloc ?_ _)); exact BK127.out) hb); have n5_ := Aside0.mk (blk_below (g := gb129) (o := .cells #[.int .i64 ((rd_T33 t124 x14_1).f0), .int .i64 ((rd_T33 t124 x14_1).f1)] 33 (0, 0)) (by (with_reducible repeat (first | refine blk_drewN ?_ _ | refine blk_drew ?_ | refine blk_alloc ?_ _)); exact BK129.out) hb); have n6_ := Aside0.mk (below_step (by repeat (first | (with_reducible first | exact HB.out | apply below_alloc | apply pw_below_drewN | apply below_drew1 | refine below_set ?_ GE123.out | refine below_set ?_ GE127.out | refine below_set ?_ GE129.out) | exact HB.out)) hb); clear HO_2; clear HO_12; clear HO_128000; clear BK123; clear BK127; clear BK129; clear HB; have HO_2 := n0_; have HO_12 := n1_; have HO_128000 := n2_; have BK123 := n3_; have BK127 := n4_; have BK129 := n5_; have HB := n6_; clear n0_ n1_ n2_ n3_ n4_ n5_ n6_; (try clear hb); (try clear hb2); (try clear hk); (try clear hi)) | (go_at_call 26; (with_reducible refine (chars_Script.calls kj56 t148 t153 _ A71.out).mono ?_); rintro e w86 ⟨rfl, hb⟩; have n0_ := Aside0.mk (Kd.R_below (by (with_reducible repeat (first | apply Kd.R_alloc | apply Kd.R_drewN | apply Kd.R_drew)); exact HO_2.out) hb); have n1_ := Aside0.mk (Kd.R_below (by (with_reducible repeat (first | apply Kd.R_alloc | apply Kd.R_drewN | apply Kd.R_drew)); exact HO_12.out) hb); have n2_ := Aside0.mk (Kd.R_below (by (with_reducible repeat (first | apply Kd.R_alloc | apply Kd.R_drewN | apply Kd.R_drew)); exact HO_128000.out) hb); have n3_ := Aside0.mk (blk_below (g := gb123) (o := .cells #[.string a0] 9 (0, 0)) (by (with_reducible repeat (first | refine blk_drewN ?_ _ | refine blk_drew ?_ | refine blk_alloc ?_ _)); exact BK123.out) hb); have n4_ := Aside0.mk (blk_below (g := gb127) (o := .cells #[.slice (some ad128) t124.length co7] 28 (0, 0)) (by (with_reducible repeat (first | refine blk_drewN ?_ _ | refine blk_drew ?_ | refine blk_alloc ?_ _)); exact BK127.out) hb); have n5_ := Aside0.mk (blk_below (g := gb129) (o := .cells #[.int .i64 ((rd_T33 t124 x14_1).f0), .int .i64 ((rd_T33 t124 x14_1).f1)] 33 (0, 0)) (by (with_reducible repeat (first | refine blk_drewN ?_ _ | refine blk_drew ?_ | refine blk_alloc ?_ _)); exact BK129.out) hb); have n6_ := Aside0.mk (below_step (by repeat (first | (with_reducible first | exact HB.out | apply below_alloc | apply pw_below_drewN | apply below_drew1 | refine below_set ?_ GE123.out | refine below_set ?_ GE127.out | refine below_set ?_ GE129.out) | exact HB.out)) hb); clear HO_2; clear HO_12; clear HO_128000; clear BK123; clear BK127; clear BK129; clear HB; have HO_2 := n0_; have HO_12 := n1_; have HO_128000 := n2_; have BK123 := n3_; have BK127 := n4_; have BK129 := n5_; have HB := n6_; clear n0_ n1_ n2_ n3_ n4_ n5_ n6_; (try clear hb); (try clear hb2); (try clear hk); (try clear hi)) | (go_at_call 24; (with_reducible refine (breaks_May_1.calls kj56 (wrap64 (x14_1 + 1)) a0 (some ad128) co7 t124 t154 _ ?side1 ?side2 ?side3 ?side4 ?side5 A73.out).mono ?_); (case side1 => repeat (first | exact (Kd.R_reads' HO_128000.out).2.2 | (with_reducible refine Kd.C_alloc ?_ _) | (with_reducible refine Kd.C_drewN ?_ _) | (with_reducible refine Kd.C_drew ?_))); (case side2 => exact (Kd.R_reads' HO_128000.out).2.1); (case side3 => exact (show _ from by (with_reducible repeat (first | refine blk_drewN ?_ _ | refine blk_drew ?_ | refine blk_alloc ?_ _)); exact BK123.out)); (case side4 => exact (show _ from by (with_reducible repeat (first | refine blk_drewN ?_ _ | refine blk_drew ?_ | refine blk_alloc ?_ _)); exact BK127.out)); (case side5 => exact NB123_127.out); rintro e w87 ⟨rfl, hb⟩; have n0_ := Aside0.mk (Kd.R_below (by (with_reducible repeat (first | apply Kd.R_alloc | apply Kd.R_drewN | apply Kd.R_drew)); exact HO_2.out) hb); have n1_ := Aside0.mk (Kd.R_below (by (with_reducible repeat (first | apply Kd.R_alloc | apply Kd.R_drewN | apply Kd.R_drew)); exact HO_12.out) hb); have n2_ := Aside0.mk (Kd.R_below (by (with_reducible repeat (first | apply Kd.R_alloc | apply Kd.R_drewN | apply Kd.R_drew)); exact HO_128000.out) hb); have n3_ := Aside0.mk (blk_below (g := gb123) (o := .cells #[.string a0] 9 (0, 0)) (by (with_reducible repeat (first | refine blk_drewN ?_ _ | refine blk_drew ?_ | refine blk_alloc ?_ _)); exact BK123.out) hb); have n4_ := Aside0.mk (blk_below (g := gb127) (o := .cells #[.slice (some ad128) t124.length co7] 28 (0, 0)) (by (with_reducible repeat (first | refine blk_drewN ?_ _ | refine blk_drew ?_ | refine blk_alloc ?_ _)); exact BK127.out) hb); have n5_ := Aside0.mk (blk_below (g := gb129) (o := .cells #[.int .i64 ((rd_T33 t124 x14_1).f0), .int .i64 ((rd_T33 t124 x14_1).f1)] 33 (0, 0)) (by (with_reducible repeat (first | refine blk_drewN ?_ _ | refine blk_drew ?_ | refine blk_alloc ?_ _)); exact BK129.out) hb); have n6_ := Aside0.mk (below_step (by repeat (first | (with_reducible first | exact HB.out | apply below_alloc | apply pw_below_drewN | apply below_drew1 | refine below_set ?_ GE123.out | refine below_set ?_ GE127.out | refine below_set ?_ GE129.out) | exact HB.out)) hb); clear HO_2; clear HO_12; clear HO_128000; clear BK123; clear BK127; clear BK129; clear HB; have HO_2 := n0_; have HO_12 := n1_; have HO_128000 := n2_; have BK123 := n3_; have BK127 := n4_; have BK129 := n5_; have HB := n6_; clear n0_ n1_ n2_ n3_ n4_ n5_ n6_; (try clear hb); (try clear hb2); (try clear hk); (try clear hi)) | (go_at_call 26; (with_reducible refine (chars_Script.calls kj56 t154 t155 _ A74.out).mono ?_); rintro e w88 ⟨rfl, hb⟩; have n0_ := Aside0.mk (Kd.R_below (by (with_reducible repeat (first | apply Kd.R_alloc | apply Kd.R_drewN | apply Kd.R_drew)); exact HO_2.out) hb); have n1_ := Aside0.mk (Kd.R_below (by (with_reducible repeat (first | apply Kd.R_alloc | apply Kd.R_drewN | apply Kd.R_drew)); exact HO_12.out) hb); have n2_ := Aside0.mk (Kd.R_below (by (with_reducible repeat (first | apply Kd.R_alloc | apply Kd.R_drewN | apply Kd.R_drew)); exact HO_128000.out) hb); have n3_ := Aside0.mk (blk_below (g := gb123) (o := .cells #[.string a0] 9 (0, 0)) (by (with_reducible repeat (first | refine blk_drewN ?_ _ | refine blk_drew ?_ | refine blk_alloc ?_ _)); exact BK123.out) hb); have n4_ := Aside0.mk (blk_below (g := gb127) (o := .cells #[.slice (some ad128) t124.length co7] 28 (0, 0)) (by (with_reducible repeat (first | refine blk_drewN ?_ _ | refine blk_drew ?_ | refine blk_alloc ?_ _)); exact BK127.out) hb); have n5_ := Aside0.mk (blk_below (g := gb129) (o := .cells #[.int .i64 ((rd_T33 t124 x14_1).f0), .int .i64 ((rd_T33 t124 x14_1).f1)] 33 (0, 0)) (by (with_reducible repeat (first | refine blk_drewN ?_ _ | refine blk_drew ?_ | refine blk_alloc ?_ _)); exact BK129.out) hb); have n6_ := Aside0.mk (below_step (by repeat (first | (with_reducible first | exact HB.out | apply below_alloc | apply pw_below_drewN | apply below_drew1 | refine below_set ?_ GE123.out | refine below_set ?_ GE127.out | refine below_set ?_ GE129.out) | exact HB.out)) hb); clear HO_2; clear HO_12; clear HO_128000; clear BK123; clear BK127; clear BK129; clear HB; have HO_2 := n0_; have HO_12 := n1_; have HO_128000 := n2_; have BK123 := n3_; have BK127 := n4_; have BK129 := n5_; have HB := n6_; clear n0_ n1_ n2_ n3_ n4_ n5_ n6_; (try clear hb); (try clear hb2); (try clear hk); (try clear hi)) | ((with_reducible refine gate_builtin (b := .append) (xs := #[.tmp 30, .tmp 31]) rfl ?_); at_builtin; refine Kd.R_append (Kd.int .i64) (w0 := w) w.heap.size rfl (.tmp 30) (.tmp 31) 22 3 (.int .i64 0) 8 rfl Try.underlying22 info3 rfl (by decide) (by omega) u2 x2_1 0 [.int .i64 0] (fun _ => True) (fun _ => False) rfl rfl ?aP (fun _ hk => hk.elim) ?aF ?aO ?aB ?aS ?aL ?_; (case aP => exact rfl); (case aB => exact (by repeat (first | (with_reducible first | exact HB.out | apply below_alloc | apply pw_below_drewN | apply below_drew1 | refine below_set ?_ GE123.out | refine below_set ?_ GE127.out | refine below_set ?_ GE129.out) | exact HB.out))); (case aF => exact (fun _ _ => trivial)); (case aO => exact (by (with_reducible repeat (first | apply Kd.R_alloc | apply Kd.R_drewN | apply Kd.R_drew)); exact HO_2.out)); (case aS => exact (below_size (by repeat (first | (with_reducible first | exact HB.out | apply below_alloc | apply pw_below_drewN | apply below_drew1 | refine below_set ?_ GE123.out | refine below_set ?_ GE127.out | refine below_set ?_ GE129.out) | exact HB.out)))); (case aL => have := LMc83.out; omega); intro v160 w89 ho hb hg hat; rw [← Ny159.out] at ho; have n0_ := Aside0.mk (Kd.R_over' (by (with_reducible repeat (first | apply Kd.R_alloc | apply Kd.R_drewN | apply Kd.R_drew)); exact HO_12.out) (Kd.R_typed (by (with_reducible repeat (first | apply Kd.R_alloc | apply Kd.R_drewN | apply Kd.R_drew)); exact HO_2.out)) (by decide) hg); have n1_ := Aside0.mk (Kd.R_over' (by (with_reducible repeat (first | apply Kd.R_alloc | apply Kd.R_drewN | apply Kd.R_drew)); exact HO_128000.out) (Kd.R_typed (by (with_reducible repeat (first | apply Kd.R_alloc | apply Kd.R_drewN | apply Kd.R_drew)); exact HO_2.out)) (by decide) hg); have n2_ := Aside0.mk (blk_grown (g := gb123) (o := .cells #[.string a0] 9 (0, 0)) (by (with_reducible repeat (first | refine blk_drewN ?_ _ | refine blk_drew ?_ | refine blk_alloc ?_ _)); exact BK123.out) hg (Kd.R_ne HO_2.out BK123.out (by decide))); have n3_ := Aside0.mk (blk_grown (g := gb127) (o := .cells #[.slice (some ad128) t124.length co7] 28 (0, 0)) (by (with_reducible repeat (first | refine blk_drewN ?_ _ | refine blk_drew ?_ | refine blk_alloc ?_ _)); exact BK127.out) hg (Kd.R_ne HO_2.out BK127.out (by decide))); have n4_ := Aside0.mk (blk_grown (g := gb129) (o := .cells #[.int .i64 ((rd_T33 t124 x14_1).f0), .int .i64 ((rd_T33 t124 x14_1).f1)] 33 (0, 0)) (by (with_reducible repeat (first | refine blk_drewN ?_ _ | refine blk_drew ?_ | refine blk_alloc ?_ _)); exact BK129.out) hg (Kd.R_ne HO_2.out BK129.out (by decide))); have n5_ := Aside0.mk (hb); have n6_ := Aside0.mk (ho); clear HO_12; clear HO_128000; clear BK123; clear BK127; clear BK129; clear HB; clear HO_2; have HO_12 := n0_; have HO_128000 := n1_; have BK123 := n2_; have BK127 := n3_; have BK129 := n4_; have HB := n5_; have HO161 := n6_; clear n0_ n1_ n2_ n3_ n4_ n5_ n6_; clear ho hb hg hat))
                                        go_roundg kj56
                                        case measure => have := HK1.out; have := HJ31.out; have := HJ56.out; omega
                                        case rel => exact ⟨(y159), (wrap64 (x14_1 + 1)), (by first | rfl | (simp; done) | (simp [*]; done)), H', ⟨by have := HK1.out; have := HJ31.out; have := HJ56.out; omega⟩, ⟨by (with_reducible repeat (first | apply Kd.R_alloc | apply Kd.R_drewN | apply Kd.R_drew)); exact HO161.out⟩, ⟨by (with_reducible repeat (first | apply Kd.R_alloc | apply Kd.R_drewN | apply Kd.R_drew)); exact Kd.R_mono HO_12.out (fun _ hk => trivial)⟩, ⟨by (with_reducible repeat (first | apply Kd.R_alloc | apply Kd.R_drewN | apply Kd.R_drew)); exact Kd.R_mono HO_128000.out (fun _ hk => trivial)⟩, ⟨by (with_reducible repeat (first | refine blk_drewN ?_ _ | refine blk_drew ?_ | refine blk_alloc ?_ _)); exact BK123.out⟩, ⟨by (with_reducible repeat (first | refine blk_drewN ?_ _ | refine blk_drew ?_ | refine blk_alloc ?_ _)); exact BK127.out⟩, ⟨by repeat (first | (with_reducible first | exact HB.out | apply below_alloc | apply pw_below_drewN | apply below_drew1 | refine below_set ?_ GE123.out | refine below_set ?_ GE127.out | refine below_set ?_ GE129.out) | exact HB.out)⟩⟩
                                      · rw [if_neg c83] at H
                                        exact absurd H (by simp)
                                  · rw [if_neg c72] at H
                                    have c72b0 : (t153 == 3) = false := beq_eq_false_iff_ne.mpr c72
                                    have c72b1 : (t153 != 3) = true := bne_iff_ne.mpr c72
                                    by_cases c90 : x2_1.length < 17592186044416
                                    · rw [if_pos c90] at H
                                      have LMc90 := Aside0.mk c90
                                      clear c90
                                      obtain ⟨y162, hy162⟩ : ∃ y_ : List Int, y_ = (x2_1 ++ [0]) := ⟨_, rfl⟩
                                      replace H : (breaks_May.l0 kj56 y162 t124 (t124.length : Int) (wrap64 (x14_1 + 1)) a0 t124) = some r := by first | (rw [hy162]; with_reducible exact H) | (have H2_ := (Option.bind_some _ _).symm.trans H; rw [hy162]; with_reducible exact H2_) | (have H2_ := (Option.bind_some _ _).symm.trans H; with_reducible exact H2_) | with_reducible exact H | (rw [hy162]; exact H) | exact H
                                      have Ny162 := Aside0.mk hy162
                                      clear hy162
                                      have H' := Aside0.mk H
                                      clear H
                                      go_wp2_with (first | (go_at_call 24; (with_reducible refine (breaks_May_1.calls kj56 x14_1 a0 (some ad128) co7 t124 t148 _ ?side1 ?side2 ?side3 ?side4 ?side5 A65.out).mono ?_); (case side1 => repeat (first | exact (Kd.R_reads' HO_128000.out).2.2 | (with_reducible refine Kd.C_alloc ?_ _) | (with_reducible refine Kd.C_drewN ?_ _) | (with_reducible refine Kd.C_drew ?_))); (case side2 => exact (Kd.R_reads' HO_128000.out).2.1); (case side3 => exact (show _ from by (with_reducible repeat (first | refine blk_drewN ?_ _ | refine blk_drew ?_ | refine blk_alloc ?_ _)); exact BK123.out)); (case side4 => exact (show _ from by (with_reducible repeat (first | refine blk_drewN ?_ _ | refine blk_drew ?_ | refine blk_alloc ?_ _)); exact BK127.out)); (case side5 => exact NB123_127.out); rintro e w91 ⟨rfl, hb⟩; have n0_ := Aside0.mk (Kd.R_below (by (with_reducible repeat (first | apply Kd.R_alloc | apply Kd.R_drewN | apply Kd.R_drew)); exact HO_2.out) hb); have n1_ := Aside0.mk (Kd.R_below (by (with_reducible repeat (first | apply Kd.R_alloc | apply Kd.R_drewN | apply Kd.R_drew)); exact HO_12.out) hb); have n2_ := Aside0.mk (Kd.R_below (by (with_reducible repeat (first | apply Kd.R_alloc | apply Kd.R_drewN | apply Kd.R_drew)); exact HO_128000.out) hb); have n3_ := Aside0.mk (blk_below (g := gb123) (o := .cells #[.string a0] 9 (0, 0)) (by (with_reducible repeat (first | refine blk_drewN ?_ _ | refine blk_drew ?_ | refine blk_alloc ?_ _)); exact BK123.out) hb); have n4_ := Aside0.mk (blk_below (g := gb127) (o := .cells #[.slice (some ad128) t124.length co7] 28 (0, 0)) (by (with_reducible repeat (first | refine blk_drewN ?_ _ | refine blk_drew ?_ | refine blk_alloc ?_ _)); exact BK127.out) hb); have n5_ := Aside0.mk (blk_below (g := gb129) (o := .cells #[.int .i64 ((rd_T33 t124 x14_1).f0), .int .i64 ((rd_T33 t124 x14_1).f1)] 33 (0, 0)) (by (with_reducible repeat (first | refine blk_drewN ?_ _ | refine blk_drew ?_ | refine blk_alloc ?_ _)); exact BK129.out) hb); have n6_ := Aside0.mk (below_step (by repeat (first | (with_reducible first | exact HB.out | apply below_alloc | apply pw_below_drewN | apply below_drew1 | refine below_set ?_ GE123.out | refine below_set ?_ GE127.out | refine below_set ?_ GE129.out) | exact HB.out)) hb); clear HO_2; clear HO_12; clear HO_128000; clear BK123; clear BK127; clear BK129; clear HB; have HO_2 := n0_; have HO_12 := n1_; have HO_128000 := n2_; have BK123 := n3_; have BK127 := n4_; have BK129 := n5_; have HB := n6_; clear n0_ n1_ n2_ n3_ n4_ n5_ n6_; (try clear hb); (try clear hb2); (try clear hk); (try clear hi)) | (go_at_call 24; (with_reducible refine (breaks_May_1.calls kj56 x14_1 a0 (some ad128) co7 t124 t148 _ ?side1 ?side2 ?side3 ?side4 ?side5 A70.out).mono ?_); (case side1 => repeat (first | exact (Kd.R_reads' HO_128000.out).2.2 | (with_reducible refine Kd.C_alloc ?_ _) | (with_reducible refine Kd.C_drewN ?_ _) | (with_reducible refine Kd.C_drew ?_))); (case side2 => exact (Kd.R_reads' HO_128000.out).2.1); (case side3 => exact (show _ from by (with_reducible repeat (first | refine blk_drewN ?_ _ | refine blk_drew ?_ | refine blk_alloc ?_ _)); exact BK123.out)); (case side4 => exact (show _ from by (with_reducible repeat (first | refine blk_drewN ?_ _ | refine blk_drew ?_ | refine blk_alloc ?_ _)); exact BK127.out)); (case side5 => exact NB123_127.out); rintro e w92 ⟨rfl, hb⟩; have n0_ := Aside0.mk (Kd.R_below (by (with_reducible repeat (first | apply Kd.R_alloc | apply Kd.R_drewN | apply Kd.R_drew)); exact HO_2.out) hb); have n1_ := Aside0.mk (Kd.R_below (by (with_reducible repeat (first | apply Kd.R_alloc | apply Kd.R_drewN | apply Kd.R_drew)); exact HO_12.out) hb); have n2_ := Aside0.mk (Kd.R_below (by (with_reducible repeat (first | apply Kd.R_alloc | apply Kd.R_drewN | apply Kd.R_drew)); exact HO_128000.out) hb); have n3_ := Aside0.mk (blk_below (g := gb123) (o := .cells #[.string a0] 9 (0, 0)) (by (with_reducible repeat (first | refine blk_drewN ?_ _ | refine blk_drew ?_ | refine blk_alloc ?_ _)); exact BK123.out) hb); have n4_ := Aside0.mk (blk_below (g := gb127) (o := .cells #[.slice (some ad128) t124.length co7] 28 (0, 0)) (by (with_reducible repeat (first | refine blk_drewN ?_ _ | refine blk_drew ?_ | refine blk_alloc ?_ _)); exact BK127.out) hb); have n5_ := Aside0.mk (blk_below (g := gb129) (o := .cells #[.int .i64 ((rd_T33 t124 x14_1).f0), .int .i64 ((rd_T33 t124 x14_1).f1)] 33 (0, 0)) (by (with_reducible repeat (first | refine blk_drewN ?_ _ | refine blk_drew ?_ | refine blk_alloc ?_ _)); exact BK129.out) hb); have n6_ := Aside0.mk (below_step (by repeat (first | (with_reducible first | exact HB.out | apply below_alloc | apply pw_below_drewN | apply below_drew1 | refine below_set ?_ GE123.out | refine below_set ?_ GE127.out | refine below_set ?_ GE129.out) | exact HB.out)) hb); clear HO_2; clear HO_12; clear HO_128000; clear BK123; clear BK127; clear BK129; clear HB; have HO_2 := n0_; have HO_12 := n1_; have HO_128000 := n2_; have BK123 := n3_; have BK127 := n4_; have BK129 := n5_; have HB := n6_; clear n0_ n1_ n2_ n3_ n4_ n5_ n6_; (try clear hb); (try clear hb2); (try clear hk); (try clear hi)) | (go_at_call 26; (with_reducible refine (chars_Script.calls kj56 t148 t153 _ A71.out).mono ?_); rintro e w93 ⟨rfl, hb⟩; have n0_ := Aside0.mk (Kd.R_below (by (with_reducible repeat (first | apply Kd.R_alloc | apply Kd.R_drewN | apply Kd.R_drew)); exact HO_2.out) hb); have n1_ := Aside0.mk (Kd.R_below (by (with_reducible repeat (first | apply Kd.R_alloc | apply Kd.R_drewN | apply Kd.R_drew)); exact HO_12.out) hb); have n2_ := Aside0.mk (Kd.R_below (by (with_reducible repeat (first | apply Kd.R_alloc | apply Kd.R_drewN | apply Kd.R_drew)); exact HO_128000.out) hb); have n3_ := Aside0.mk (blk_below (g := gb123) (o := .cells #[.string a0] 9 (0, 0)) (by (with_reducible repeat (first | refine blk_drewN ?_ _ | refine blk_drew ?_ | refine blk_alloc ?_ _)); exact BK123.out) hb); have n4_ := Aside0.mk (blk_below (g := gb127) (o := .cells #[.slice (some ad128) t124.length co7] 28 (0, 0)) (by (with_reducible repeat (first | refine blk_drewN ?_ _ | refine blk_drew ?_ | refine blk_alloc ?_ _)); exact BK127.out) hb); have n5_ := Aside0.mk (blk_below (g := gb129) (o := .cells #[.int .i64 ((rd_T33 t124 x14_1).f0), .int .i64 ((rd_T33 t124 x14_1).f1)] 33 (0, 0)) (by (with_reducible repeat (first | refine blk_drewN ?_ _ | refine blk_drew ?_ | refine blk_alloc ?_ _)); exact BK129.out) hb); have n6_ := Aside0.mk (below_step (by repeat (first | (with_reducible first | exact HB.out | apply below_alloc | apply pw_below_drewN | apply below_drew1 | refine below_set ?_ GE123.out | refine below_set ?_ GE127.out | refine below_set ?_ GE129.out) | exact HB.out)) hb); clear HO_2; clear HO_12; clear HO_128000; clear BK123; clear BK127; clear BK129; clear HB; have HO_2 := n0_; have HO_12 := n1_; have HO_128000 := n2_; have BK123 := n3_; have BK127 := n4_; have BK129 := n5_; have HB := n6_; clear n0_ n1_ n2_ n3_ n4_ n5_ n6_; (try clear hb); (try clear hb2); (try clear hk); (try clear hi)) | ((with_reducible refine gate_builtin (b := .append) (xs := #[.tmp 30, .tmp 31]) rfl ?_); at_builtin; refine Kd.R_append (Kd.int .i64) (w0 := w) w.heap.size rfl (.tmp 30) (.tmp 31) 22 3 (.int .i64 0) 8 rfl Try.underlying22 info3 rfl (by decide) (by omega) u2 x2_1 0 [.int .i64 0] (fun _ => True) (fun _ => False) rfl rfl ?aP (fun _ hk => hk.elim) ?aF ?aO ?aB ?aS ?aL ?_; (case aP => exact rfl); (case aB => exact (by repeat (first | (with_reducible first | exact HB.out | apply below_alloc | apply pw_below_drewN | apply below_drew1 | refine below_set ?_ GE123.out | refine below_set ?_ GE127.out | refine below_set ?_ GE129.out) | exact HB.out))); (case aF => exact (fun _ _ => trivial)); (case aO => exact (by (with_reducible repeat (first | apply Kd.R_alloc | apply Kd.R_drewN | apply Kd.R_drew)); exact HO_2.out)); (case aS => exact (below_size (by repeat (first | (with_reducible first | exact HB.out | apply below_alloc | apply pw_below_drewN | apply below_drew1 | refine below_set ?_ GE123.out | refine below_set ?_ GE127.out | refine below_set ?_ GE129.out) | exact HB.out)))); (case aL => have := LMc90.out; omega); intro v163 w94 ho hb hg hat; rw [← Ny162.out] at ho; have n0_ := Aside0.mk (Kd.R_over' (by (with_reducible repeat (first | apply Kd.R_alloc | apply Kd.R_drewN | apply Kd.R_drew)); exact HO_12.out) (Kd.R_typed (by (with_reducible repeat (first | apply Kd.R_alloc | apply Kd.R_drewN | apply Kd.R_drew)); exact HO_2.out)) (by decide) hg); have n1_ := Aside0.mk (Kd.R_over' (by (with_reducible repeat (first | apply Kd.R_alloc | apply Kd.R_drewN | apply Kd.R_drew)); exact HO_128000.out) (Kd.R_typed (by (with_reducible repeat (first | apply Kd.R_alloc | apply Kd.R_drewN | apply Kd.R_drew)); exact HO_2.out)) (by decide) hg); have n2_ := Aside0.mk (blk_grown (g := gb123) (o := .cells #[.string a0] 9 (0, 0)) (by (with_reducible repeat (first | refine blk_drewN ?_ _ | refine blk_drew ?_ | refine blk_alloc ?_ _)); exact BK123.out) hg (Kd.R_ne HO_2.out BK123.out (by decide))); have n3_ := Aside0.mk (blk_grown (g := gb127) (o := .cells #[.slice (some ad128) t124.length co7] 28 (0, 0)) (by (with_reducible repeat (first | refine blk_drewN ?_ _ | refine blk_drew ?_ | refine blk_alloc ?_ _)); exact BK127.out) hg (Kd.R_ne HO_2.out BK127.out (by decide))); have n4_ := Aside0.mk (blk_grown (g := gb129) (o := .cells #[.int .i64 ((rd_T33 t124 x14_1).f0), .int .i64 ((rd_T33 t124 x14_1).f1)] 33 (0, 0)) (by (with_reducible repeat (first | refine blk_drewN ?_ _ | refine blk_drew ?_ | refine blk_alloc ?_ _)); exact BK129.out) hg (Kd.R_ne HO_2.out BK129.out (by decide))); have n5_ := Aside0.mk (hb); have n6_ := Aside0.mk (ho); clear HO_12; clear HO_128000; clear BK123; clear BK127; clear BK129; clear HB; clear HO_2; have HO_12 := n0_; have HO_128000 := n1_; have BK123 := n2_; have BK127 := n3_; have BK129 := n4_; have HB := n5_; have HO164 := n6_; clear n0_ n1_ n2_ n3_ n4_ n5_ n6_; clear ho hb hg hat))
                                      go_roundg kj56
                                      case measure => have := HK1.out; have := HJ31.out; have := HJ56.out; omega
                                      case rel => exact ⟨(y162), (wrap64 (x14_1 + 1)), (by first | rfl | (simp; done) | (simp [*]; done)), H', ⟨by have := HK1.out; have := HJ31.out; have := HJ56.out; omega⟩, ⟨by (with_reducible repeat (first | apply Kd.R_alloc | apply Kd.R_drewN | apply Kd.R_drew)); exact HO164.out⟩, ⟨by (with_reducible repeat (first | apply Kd.R_alloc | apply Kd.R_drewN | apply Kd.R_drew)); exact Kd.R_mono HO_12.out (fun _ hk => trivial)⟩, ⟨by (with_reducible repeat (first | apply Kd.R_alloc | apply Kd.R_drewN | apply Kd.R_drew)); exact Kd.R_mono HO_128000.out (fun _ hk => trivial)⟩, ⟨by (with_reducible repeat (first | refine blk_drewN ?_ _ | refine blk_drew ?_ | refine blk_alloc ?_ _)); exact BK123.out⟩, ⟨by (with_reducible repeat (first | refine blk_drewN ?_ _ | refine blk_drew ?_ | refine blk_alloc ?_ _)); exact BK127.out⟩, ⟨by repeat (first | (with_reducible first | exact HB.out | apply below_alloc | apply pw_below_drewN | apply below_drew1 | refine below_set ?_ GE123.out | refine below_set ?_ GE127.out | refine below_set ?_ GE129.out) | exact HB.out)⟩⟩
                                    · rw [if_neg c90] at H
                                      exact absurd H (by simp)
              · rw [if_neg c17] at H
                exact absurd H (by simp)
            · rw [if_neg c16] at H
              exact absurd H (by simp)
          · rw [if_neg c12] at H
            exact absurd H (by simp)
        · rw [if_neg c11] at H
          exact absurd H (by simp)
      · rw [if_neg c10] at H
        have c10b0 : decide (x14_1 < (t124.length : Int)) = false := decide_eq_false c10
        clear c10
        obtain rfl := Option.some.inj H
        go_wp2
        go_ret
        exact ⟨_, by first | rfl | (simp [errW_none, errW_some] <;> rfl) | (simp [*, errW_none, errW_some] <;> rfl), by (with_reducible repeat (first | apply Kd.R_alloc | apply Kd.R_drewN | apply Kd.R_drew)); exact HO_2.out, by repeat (first | (with_reducible first | exact HB.out | apply below_alloc | apply pw_below_drewN | apply below_drew1 | refine below_set ?_ GE123.out | refine below_set ?_ GE127.out) | exact HB.out)⟩

end Go.Proofs.Ythllgpjjjegenaa.Q

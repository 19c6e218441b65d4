-- Written by wip/tools/myprint.py, a program of this session that drives the kit's print.py; not a text of print.sh.
import Derived.Test.YtgpdieogkcnfeaaQx0
import Derived.Test.YtgpdieogkcnfeaaQx10
namespace Go.Proofs.Ytgpdieogkcnfeaa.Q
open Go.RowKit Go.Proofs.YtgpdieogkcnfeaaW.PrintWords Go.Proofs.YtgpdieogkcnfeaaW.PrintLast Go.Proofs.YtgpdieogkcnfeaaW.PrintMore
attribute [local go_sem] max2_int min2_int max_two min_two max_three min_three max_four min_four   -- for this text's walks alone
set_option linter.unusedVariables false
set_option linter.unusedSimpArgs false

/-! ### abugidaref06_Base: function 37 -/
mutual
def abugidaref06_Base.j0 : Nat → ByteArray → Bool → Int → Int → Option (Int)
  | 0, _, _, _, _ => none
  | k + 1, x0, x23, x291000, x291001 => if x23 = true then (some (-1)) else (abugidaref06_Base.l0 k x0 x291000 x291000 x291001)
def abugidaref06_Base.l0 : Nat → ByteArray → Int → Int → Int → Option (Int)
  | 0, _, _, _, _ => none
  | k + 1, x0, x5, x291000, x291001 => if x5 < x291001 then (if 0 ≤ x5 then (if x5 < (x0.size : Int) then ((abugidaref05_Extends.f k (wrap64 (bt x0 x5))).bind fun t291 => (if t291 = true then (abugidaref06_Base.l0 k x0 (wrap64 (x5 + 1)) x291000 x291001) else (some x5))) else (none)) else (none)) else (some x291000)
end
def abugidaref06_Base.f (k : Nat) (a0 : ByteArray) (a1_0 : Int) (a1_1 : Int) : Option (Int) := if a1_0 < 0 then (abugidaref06_Base.j0 k a0 true a1_0 a1_1) else (if a1_0 ≥ a1_1 then (abugidaref06_Base.j0 k a0 true a1_0 a1_1) else (abugidaref06_Base.j0 k a0 (decide (a1_1 > (a0.size : Int))) a1_0 a1_1))
theorem abugidaref06_Base.mono_l : ∀ k, (∀ y0 y1 y2 y3, LeO (abugidaref06_Base.j0 k y0 y1 y2 y3) (abugidaref06_Base.j0 (k + 1) y0 y1 y2 y3)) ∧ (∀ y0 y1 y2 y3, LeO (abugidaref06_Base.l0 k y0 y1 y2 y3) (abugidaref06_Base.l0 (k + 1) y0 y1 y2 y3))
  | 0 => ⟨fun _ _ _ _ r h => by simp [abugidaref06_Base.j0] at h, fun _ _ _ _ r h => by simp [abugidaref06_Base.l0] at h⟩
  | k + 1 => by
    obtain ⟨ih0, ih1⟩ := abugidaref06_Base.mono_l k
    refine ⟨?_, ?_⟩
    · intro y0 y1 y2 y3
      unfold abugidaref06_Base.j0
      repeat' first
      | (with_reducible exact ih0 _ _ _ _)
      | (with_reducible exact ih1 _ _ _ _)
      | (with_reducible exact abugidaref05_Extends.mono _ _)
      | (with_reducible exact LeO.refl _)
      | (with_reducible exact LeO.none _)
      | (with_reducible refine LeO.ite ?_ ?_)
      | (with_reducible refine LeO.bind ?_ (fun _ => ?_))
      | exact ih0 _ _ _ _
      | exact ih1 _ _ _ _
      | exact abugidaref05_Extends.mono _ _
      | exact LeO.none _
      | refine LeO.ite ?_ ?_
      | refine LeO.bind ?_ (fun _ => ?_)
    · intro y0 y1 y2 y3
      unfold abugidaref06_Base.l0
      repeat' first
      | (with_reducible exact ih0 _ _ _ _)
      | (with_reducible exact ih1 _ _ _ _)
      | (with_reducible exact abugidaref05_Extends.mono _ _)
      | (with_reducible exact LeO.refl _)
      | (with_reducible exact LeO.none _)
      | (with_reducible refine LeO.ite ?_ ?_)
      | (with_reducible refine LeO.bind ?_ (fun _ => ?_))
      | exact ih0 _ _ _ _
      | exact ih1 _ _ _ _
      | exact abugidaref05_Extends.mono _ _
      | exact LeO.none _
      | refine LeO.ite ?_ ?_
      | refine LeO.bind ?_ (fun _ => ?_)
theorem abugidaref06_Base.mono : ∀ a0 a1 a2 k, LeO (abugidaref06_Base.f k a0 a1 a2) (abugidaref06_Base.f (k + 1) a0 a1 a2) := by
  intro a0 a1 a2 k
  obtain ⟨ih0, ih1⟩ := abugidaref06_Base.mono_l k
  unfold abugidaref06_Base.f
  repeat' first
      | (with_reducible exact ih0 _ _ _ _)
      | (with_reducible exact ih1 _ _ _ _)
      | (with_reducible exact abugidaref05_Extends.mono _ _)
      | (with_reducible exact LeO.refl _)
      | (with_reducible exact LeO.none _)
      | (with_reducible refine LeO.ite ?_ ?_)
      | (with_reducible refine LeO.bind ?_ (fun _ => ?_))
      | exact ih0 _ _ _ _
      | exact ih1 _ _ _ _
      | exact abugidaref05_Extends.mono _ _
      | exact LeO.none _
      | refine LeO.ite ?_ ?_
      | refine LeO.bind ?_ (fun _ => ?_)
set_option maxHeartbeats 8000000 in
set_option maxRecDepth 100000 in
theorem abugidaref06_Base.calls (k : Nat) (a0 : ByteArray) (a1_0 : Int) (a1_1 : Int) (r : Int) (w : World) (h : abugidaref06_Base.f k a0 a1_0 a1_1 = some r) :
    Calls Try.prog 37 #[.string a0, .agg #[.int .i64 a1_0, .int .i64 a1_1]] w fun e w' => e = .returned (.int .i64 r) ∧ Below w.heap.size w w' := by
  have hu29 := Try.underlying29
  have HB := Aside0.mk (Below.refl w.heap.size w)
  have H : (if a1_0 < 0 then (abugidaref06_Base.j0 k a0 true a1_0 a1_1) else (if a1_0 ≥ a1_1 then (abugidaref06_Base.j0 k a0 true a1_0 a1_1) else (abugidaref06_Base.j0 k a0 (decide (a1_1 > (a0.size : Int))) a1_0 a1_1))) = some r := h
  clear h
  have HC3 := Aside0.mk H
  clear H
  go_enter Try.func37, Try.ntmps37
  go_upto_region 1 with (first | ((with_reducible refine gate_dst (N := 3) rfl ?_); (try (refine gate_guard (by rfl) ?_; dsimp only)); refine box_event ?hg (N := 3) ?hd (cs := #[.int .i64 a1_0, .int .i64 a1_1]) (t := 29) ?hr ?_; (case hd => rfl); (case hg => rfl); (case hr => first | (go_simp; done) | (go_simp; rfl)); intro gb290 hg w4 hbox hb; have n0_ := Aside0.mk (below_step (by repeat (first | (with_reducible first | exact HB.out | apply below_alloc | apply pw_below_drewN | apply below_drew1) | exact HB.out)) hb); have n1_ := Aside0.mk (hbox); have n2_ := Aside0.mk ((by rw [hg]; exact (below_size (by repeat (first | (with_reducible first | exact HB.out | apply below_alloc | apply pw_below_drewN | apply below_drew1) | exact HB.out))) : w.heap.size ≤ gb290)); have n3_ := Aside0.mk ((by rw [hg]; exact (below_size (by repeat (first | (with_reducible first | exact HB.out | apply below_alloc | apply pw_below_drewN | apply below_drew1) | exact HB.out))) : w.heap.size ≤ gb290)); clear HB; have HB := n0_; have BK290 := n1_; have GW290 := n2_; have GE290 := n3_; clear n0_ n1_ n2_ n3_; clear hb hbox hg))
  (try simp only [Act.put, List.setIfInBounds_toArray, List.set_cons_zero, List.set_cons_succ])
  go_cut [23] (fun v23 wc => ∃ (kq : Nat) (x23_2 : Bool), v23 = .bool x23_2 ∧ Aside0 (abugidaref06_Base.j0 kq a0 x23_2 a1_0 a1_1 = some r) ∧ Aside0 (kq ≤ k) ∧ Aside0 (wc.heap[gb290]? = some (.cells #[.int .i64 a1_0, .int .i64 a1_1] 29 (0, 0))) ∧ Aside0 (Below w.heap.size w wc))
  case first =>
    have H := HC3.out
    clear HC3
    by_cases c5 : a1_0 < 0
    · rw [if_pos c5] at H
      have c5b0 : decide (a1_0 < 0) = true := decide_eq_true c5
      clear c5
      (first | rw [c5b0] | (simp only [i64_w, i32_w]; rw [c5b0]) | skip)
      have H' := Aside0.mk H
      clear H
      have hcz6_0 : w4.cell? ⟨gb290, 0, none⟩ = some (.int .i64 a1_0) := (blk_cell BK290.out 0).trans rfl
      have hcz6_1 : w4.cell? ⟨gb290, 1, none⟩ = some (.int .i64 a1_1) := (blk_cell BK290.out 1).trans rfl
      have hfz6_0 := blk_frozen BK290.out 0
      have hfz6_1 := blk_frozen BK290.out 1
      go_wp2
      go_meet
      case rel => exact ⟨_, (true), (by first | rfl | (simp; done) | (simp [*]; done)), H', ⟨by first | omega | exact Nat.le_refl _⟩, ⟨by (with_reducible repeat (first | refine blk_drewN ?_ _ | refine blk_drew ?_ | refine blk_alloc ?_ _)); exact BK290.out⟩, ⟨by repeat (first | (with_reducible first | exact HB.out | apply below_alloc | apply pw_below_drewN | apply below_drew1 | refine below_set ?_ GE290.out) | exact HB.out)⟩⟩
    · rw [if_neg c5] at H
      have c5b0 : decide (a1_0 < 0) = false := decide_eq_false c5
      clear c5
      (first | rw [c5b0] | (simp only [i64_w, i32_w]; rw [c5b0]) | skip)
      by_cases c7 : a1_0 ≥ a1_1
      · rw [if_pos c7] at H
        have c7b0 : decide (a1_1 ≤ a1_0) = true := decide_eq_true c7
        clear c7
        have H' := Aside0.mk H
        clear H
        have hcz8_0 : w4.cell? ⟨gb290, 0, none⟩ = some (.int .i64 a1_0) := (blk_cell BK290.out 0).trans rfl
        have hcz8_1 : w4.cell? ⟨gb290, 1, none⟩ = some (.int .i64 a1_1) := (blk_cell BK290.out 1).trans rfl
        have hfz8_0 := blk_frozen BK290.out 0
        have hfz8_1 := blk_frozen BK290.out 1
        go_wp2
        go_meet
        case rel => exact ⟨_, (true), (by first | rfl | (simp; done) | (simp [*]; done)), H', ⟨by first | omega | exact Nat.le_refl _⟩, ⟨by (with_reducible repeat (first | refine blk_drewN ?_ _ | refine blk_drew ?_ | refine blk_alloc ?_ _)); exact BK290.out⟩, ⟨by repeat (first | (with_reducible first | exact HB.out | apply below_alloc | apply pw_below_drewN | apply below_drew1 | refine below_set ?_ GE290.out) | exact HB.out)⟩⟩
      · rw [if_neg c7] at H
        have c7b0 : decide (a1_1 ≤ a1_0) = false := decide_eq_false c7
        clear c7
        have H' := Aside0.mk H
        clear H
        have hcz9_0 : w4.cell? ⟨gb290, 0, none⟩ = some (.int .i64 a1_0) := (blk_cell BK290.out 0).trans rfl
        have hcz9_1 : w4.cell? ⟨gb290, 1, none⟩ = some (.int .i64 a1_1) := (blk_cell BK290.out 1).trans rfl
        have hfz9_0 := blk_frozen BK290.out 0
        have hfz9_1 := blk_frozen BK290.out 1
        go_wp2
        go_meet
        case rel => exact ⟨_, (decide (a1_1 > (a0.size : Int))), (by first | rfl | (simp; done) | (simp [*]; done)), H', ⟨by first | omega | exact Nat.le_refl _⟩, ⟨by (with_reducible repeat (first | refine blk_drewN ?_ _ | refine blk_drew ?_ | refine blk_alloc ?_ _)); exact BK290.out⟩, ⟨by repeat (first | (with_reducible first | exact HB.out | apply below_alloc | apply pw_below_drewN | apply below_drew1 | refine below_set ?_ GE290.out) | exact HB.out)⟩⟩
  case rest =>
    clear HC3
    try clear p2
    try clear c3
    try clear c5
    try clear c5b0
    try clear c7
    try clear c7b0
    try clear hcz6_0
    try clear hcz6_1
    try clear hcz8_0
    try clear hcz8_1
    try clear hcz9_0
    try clear hcz9_1
    try clear hfz6_0
    try clear hfz6_1
    try clear hfz8_0
    try clear hfz8_1
    try clear hfz9_0
    try clear hfz9_1
    obtain ⟨kq, x23_2, rfl, HA, HJ2, BK290, HB⟩ := hcut
    cases kq with
    | zero => exact absurd HA.out (by simp [abugidaref06_Base.j0])
    | succ kj2 =>
      have H := HA.out
      clear HA
      simp only [abugidaref06_Base.j0] at H
      by_cases c10 : x23_2 = true
      · subst c10
        have H1 : (some (-1)) = some r := by rw [if_pos rfl] at H; exact H
        clear H
        have H := H1
        clear H1
        obtain rfl := Option.some.inj H
        go_wp2
        go_ret
        exact ⟨by first | rfl | (simp [errW_none, errW_some] <;> rfl) | (simp [*, errW_none, errW_some] <;> rfl), by repeat (first | (with_reducible first | exact HB.out | apply below_alloc | apply pw_below_drewN | apply below_drew1 | refine below_set ?_ GE290.out) | exact HB.out)⟩
      · replace c10 := Bool.eq_false_iff.mpr c10
        subst c10
        have H1 : (abugidaref06_Base.l0 kj2 a0 a1_0 a1_0 a1_1) = some r := by rw [if_neg (show ¬ (false = true) by decide)] at H; exact H
        clear H
        have H := H1
        clear H1
        have H' := Aside0.mk H
        clear H
        have hcz11_0 : wc.cell? ⟨gb290, 0, none⟩ = some (.int .i64 a1_0) := (blk_cell BK290.out 0).trans rfl
        have hcz11_1 : wc.cell? ⟨gb290, 1, none⟩ = some (.int .i64 a1_1) := (blk_cell BK290.out 1).trans rfl
        have hfz11_0 := blk_frozen BK290.out 0
        have hfz11_1 := blk_frozen BK290.out 1
        go_wp2
        go_loopg [5] kj2 (fun kq v5 w' => ∃ (x5_2 : Int), v5 = .int .i64 x5_2 ∧ Aside0 (abugidaref06_Base.l0 kq a0 x5_2 a1_0 a1_1 = some r) ∧ Aside0 (kq ≤ kj2) ∧ Aside0 (w'.heap[gb290]? = some (.cells #[.int .i64 a1_0, .int .i64 a1_1] 29 (0, 0))) ∧ Aside0 (Below w.heap.size w w'))
        case atStart => exact ⟨(a1_0), (by first | rfl | (simp; done) | (simp [*]; done)), H', ⟨Nat.le_refl _⟩, ⟨by (with_reducible repeat (first | refine blk_drewN ?_ _ | refine blk_drew ?_ | refine blk_alloc ?_ _)); exact BK290.out⟩, ⟨by repeat (first | (with_reducible first | exact HB.out | apply below_alloc | apply pw_below_drewN | apply below_drew1 | refine below_set ?_ GE290.out) | exact HB.out)⟩⟩
        case round =>
          clear H'
          try clear c1
          try clear p2
          try clear c3
          try clear c5
          try clear c5b0
          try clear c7
          try clear c7b0
          try clear c10
          try clear hcz11_0
          try clear hcz11_1
          try clear hcz6_0
          try clear hcz6_1
          try clear hcz8_0
          try clear hcz8_1
          try clear hcz9_0
          try clear hcz9_1
          try clear hfz11_0
          try clear hfz11_1
          try clear hfz6_0
          try clear hfz6_1
          try clear hfz8_0
          try clear hfz8_1
          try clear hfz9_0
          try clear hfz9_1
          try clear p2
          obtain ⟨x5_2, rfl, HA, HK2, BK290, HB⟩ := hrel
          cases gk with
          | zero => exact absurd HA.out (by simp [abugidaref06_Base.l0])
          | succ k2 =>
            have H := HA.out
            clear HA
            simp only [abugidaref06_Base.l0] at H
            by_cases c12 : x5_2 < a1_1
            · rw [if_pos c12] at H
              have c12b0 : decide (x5_2 < a1_1) = true := decide_eq_true c12
              clear c12
              by_cases c13 : 0 ≤ x5_2
              · rw [if_pos c13] at H
                have c13b0 : decide (0 ≤ x5_2) = true := decide_eq_true c13
                clear c13
                by_cases c14 : x5_2 < (a0.size : Int)
                · rw [if_pos c14] at H
                  have c14b0 : decide (x5_2 < (a0.size : Int)) = true := decide_eq_true c14
                  clear c14
                  replace H := Option.bind_eq_some_iff.mp H
                  obtain ⟨t291, A160, H⟩ := H
                  replace H : (if t291 = true then (abugidaref06_Base.l0 k2 a0 (wrap64 (x5_2 + 1)) a1_0 a1_1) else (some x5_2)) = some r := H
                  have A16 := Aside0.mk A160
                  clear A160
                  by_cases c17 : t291 = true
                  · subst c17
                    have H1 : (abugidaref06_Base.l0 k2 a0 (wrap64 (x5_2 + 1)) a1_0 a1_1) = some r := by rw [if_pos rfl] at H; exact H
                    clear H
                    have H := H1
                    clear H1
                    have H' := Aside0.mk H
                    clear H
                    have hcz18_0 : wr.cell? ⟨gb290, 0, none⟩ = some (.int .i64 a1_0) := (blk_cell BK290.out 0).trans rfl
                    have hcz18_1 : wr.cell? ⟨gb290, 1, none⟩ = some (.int .i64 a1_1) := (blk_cell BK290.out 1).trans rfl
                    have hfz18_0 := blk_frozen BK290.out 0
                    have hfz18_1 := blk_frozen BK290.out 1
                    have p15 : 0 ≤ (x5_2 : Int) := of_decide_eq_true (by first | (with_reducible assumption) | assumption)
                    have q15 : x5_2 < (a0.size : Int) := of_decide_eq_true (by first | (with_reducible assumption) | assumption)
                    have hx15 := bt_at a0 x5_2
                    replace p15 := eq_true p15
                    replace q15 := eq_true q15
                    go_wp2_with (first | ((with_reducible refine gate_callee (f := 43) rfl ?_); refine goesL_ (some 36) rfl rfl Try.func43 (by kernel_rfl) rfl #[.int .i64 (wrap64 (bt a0 x5_2))] rfl (by (try simp only [List.map_toArray, List.map_cons, List.map_nil]); first | done | rfl | (simp only [List.length_drop, List.length_take]; rfl)) ?_; (with_reducible refine (abugidaref05_Extends.calls k2 (wrap64 (bt a0 x5_2)) true _ A16.out).mono ?_); rintro e w' ⟨rfl, ⟨nd, rfl⟩⟩; refine ⟨_, rfl, ?_⟩))
                    go_roundg k2
                    case measure => have := HJ2.out; have := HK2.out; omega
                    case rel => exact ⟨(wrap64 (x5_2 + 1)), (by first | rfl | (simp; done) | (simp [*]; done)), H', ⟨by have := HJ2.out; have := HK2.out; omega⟩, ⟨by (with_reducible repeat (first | refine blk_drewN ?_ _ | refine blk_drew ?_ | refine blk_alloc ?_ _)); exact BK290.out⟩, ⟨by repeat (first | (with_reducible first | exact HB.out | apply below_alloc | apply pw_below_drewN | apply below_drew1 | refine below_set ?_ GE290.out) | exact HB.out)⟩⟩
                  · replace c17 := Bool.eq_false_iff.mpr c17
                    subst c17
                    have H1 : (some x5_2) = some r := by rw [if_neg (show ¬ (false = true) by decide)] at H; exact H
                    clear H
                    have H := H1
                    clear H1
                    obtain rfl := Option.some.inj H
                    have hcz19_0 : wr.cell? ⟨gb290, 0, none⟩ = some (.int .i64 a1_0) := (blk_cell BK290.out 0).trans rfl
                    have hcz19_1 : wr.cell? ⟨gb290, 1, none⟩ = some (.int .i64 a1_1) := (blk_cell BK290.out 1).trans rfl
                    have hfz19_0 := blk_frozen BK290.out 0
                    have hfz19_1 := blk_frozen BK290.out 1
                    have p15 : 0 ≤ (x5_2 : Int) := of_decide_eq_true (by first | (with_reducible assumption) | assumption)
                    have q15 : x5_2 < (a0.size : Int) := of_decide_eq_true (by first | (with_reducible assumption) | assumption)
                    have hx15 := bt_at a0 x5_2
                    replace p15 := eq_true p15
                    replace q15 := eq_true q15
                    go_wp2_with (first | ((with_reducible refine gate_callee (f := 43) rfl ?_); refine goesL_ (some 36) rfl rfl Try.func43 (by kernel_rfl) rfl #[.int .i64 (wrap64 (bt a0 x5_2))] rfl (by (try simp only [List.map_toArray, List.map_cons, List.map_nil]); first | done | rfl | (simp only [List.length_drop, List.length_take]; rfl)) ?_; (with_reducible refine (abugidaref05_Extends.calls k2 (wrap64 (bt a0 x5_2)) false _ A16.out).mono ?_); rintro e w' ⟨rfl, ⟨nd, rfl⟩⟩; refine ⟨_, rfl, ?_⟩))
                    go_ret
                    exact ⟨by first | rfl | (simp [errW_none, errW_some] <;> rfl) | (simp [*, errW_none, errW_some] <;> rfl), by repeat (first | (with_reducible first | exact HB.out | apply below_alloc | apply pw_below_drewN | apply below_drew1 | refine below_set ?_ GE290.out) | exact HB.out)⟩
                · rw [if_neg c14] at H
                  exact absurd H (by simp)
              · rw [if_neg c13] at H
                exact absurd H (by simp)
            · rw [if_neg c12] at H
              have c12b0 : decide (x5_2 < a1_1) = false := decide_eq_false c12
              clear c12
              obtain rfl := Option.some.inj H
              have hcz20_0 : wr.cell? ⟨gb290, 0, none⟩ = some (.int .i64 a1_0) := (blk_cell BK290.out 0).trans rfl
              have hcz20_1 : wr.cell? ⟨gb290, 1, none⟩ = some (.int .i64 a1_1) := (blk_cell BK290.out 1).trans rfl
              have hfz20_0 := blk_frozen BK290.out 0
              have hfz20_1 := blk_frozen BK290.out 1
              go_wp2
              go_ret
              exact ⟨by first | rfl | (simp [errW_none, errW_some] <;> rfl) | (simp [*, errW_none, errW_some] <;> rfl), by repeat (first | (with_reducible first | exact HB.out | apply below_alloc | apply pw_below_drewN | apply below_drew1 | refine below_set ?_ GE290.out) | exact HB.out)⟩

/-! ### abugidaref17_head: function 29 -/
def abugidaref17_head.f (k : Nat) (a0 : ByteArray) (a1_0 : Int) (a1_1 : Int) : Option (Int) := (abugidaref06_Base.f k a0 a1_0 a1_1).bind fun t293 => (if 0 ≤ t293 then (if t293 < (a0.size : Int) then ((abugidaref05_Class.f k (wrap64 (bt a0 t293))).bind fun t294 => (some t294)) else (none)) else (none))
theorem abugidaref17_head.mono : ∀ a0 a1 a2 k, LeO (abugidaref17_head.f k a0 a1 a2) (abugidaref17_head.f (k + 1) a0 a1 a2) := by
  intro a0 a1 a2 k
  unfold abugidaref17_head.f
  repeat' first
      | (with_reducible exact abugidaref05_Class.mono _ _)
      | (with_reducible exact abugidaref06_Base.mono _ _ _ _)
      | (with_reducible exact LeO.refl _)
      | (with_reducible exact LeO.none _)
      | (with_reducible refine LeO.ite ?_ ?_)
      | (with_reducible refine LeO.bind ?_ (fun _ => ?_))
      | exact abugidaref05_Class.mono _ _
      | exact abugidaref06_Base.mono _ _ _ _
      | exact LeO.none _
      | refine LeO.ite ?_ ?_
      | refine LeO.bind ?_ (fun _ => ?_)
set_option maxHeartbeats 8000000 in
set_option maxRecDepth 100000 in
theorem abugidaref17_head.calls (k : Nat) (a0 : ByteArray) (a1_0 : Int) (a1_1 : Int) (r : Int) (w : World) (h : abugidaref17_head.f k a0 a1_0 a1_1 = some r) :
    Calls Try.prog 29 #[.string a0, .agg #[.int .i64 a1_0, .int .i64 a1_1]] w fun e w' => e = .returned (.int .i64 r) ∧ Below w.heap.size w w' := by
  have hu29 := Try.underlying29
  have HB := Aside0.mk (Below.refl w.heap.size w)
  have H : ((abugidaref06_Base.f k a0 a1_0 a1_1).bind fun t293 => (if 0 ≤ t293 then (if t293 < (a0.size : Int) then ((abugidaref05_Class.f k (wrap64 (bt a0 t293))).bind fun t294 => (some t294)) else (none)) else (none))) = some r := h
  clear h
  replace H := Option.bind_eq_some_iff.mp H
  obtain ⟨t293, A30, H⟩ := H
  replace H : (if 0 ≤ t293 then (if t293 < (a0.size : Int) then ((abugidaref05_Class.f k (wrap64 (bt a0 t293))).bind fun t294 => (some t294)) else (none)) else (none)) = some r := H
  have A3 := Aside0.mk A30
  clear A30
  by_cases c4 : 0 ≤ t293
  · rw [if_pos c4] at H
    have c4b0 : decide (0 ≤ t293) = true := decide_eq_true c4
    clear c4
    by_cases c5 : t293 < (a0.size : Int)
    · rw [if_pos c5] at H
      have c5b0 : decide (t293 < (a0.size : Int)) = true := decide_eq_true c5
      clear c5
      replace H := Option.bind_eq_some_iff.mp H
      obtain ⟨t294, A70, H⟩ := H
      replace H : (some t294) = some r := H
      have A7 := Aside0.mk A70
      clear A70
      obtain rfl := Option.some.inj H
      go_enter Try.func29, Try.ntmps29
      go_wp2_with (first | ((with_reducible refine gate_dst (N := 3) rfl ?_); refine box_event ?hg (N := 3) ?hd (cs := #[.int .i64 a1_0, .int .i64 a1_1]) (t := 29) ?hr ?_; (case hd => rfl); (case hg => rfl); (case hr => first | (go_simp; done) | (go_simp; rfl)); intro gb292 hg w8 hbox hb; have n0_ := Aside0.mk (below_step (by repeat (first | (with_reducible first | exact HB.out | apply below_alloc | apply pw_below_drewN | apply below_drew1) | exact HB.out)) hb); have n1_ := Aside0.mk (hbox); have n2_ := Aside0.mk ((by rw [hg]; exact (below_size (by repeat (first | (with_reducible first | exact HB.out | apply below_alloc | apply pw_below_drewN | apply below_drew1) | exact HB.out))) : w.heap.size ≤ gb292)); have n3_ := Aside0.mk ((by rw [hg]; exact (below_size (by repeat (first | (with_reducible first | exact HB.out | apply below_alloc | apply pw_below_drewN | apply below_drew1) | exact HB.out))) : w.heap.size ≤ gb292)); clear HB; have HB := n0_; have BK292 := n1_; have GW292 := n2_; have GE292 := n3_; clear n0_ n1_ n2_ n3_; clear hb hbox hg; have hcz9_0 : w8.cell? ⟨gb292, 0, none⟩ = some (.int .i64 a1_0) := (blk_cell BK292.out 0).trans rfl; have hcz9_1 : w8.cell? ⟨gb292, 1, none⟩ = some (.int .i64 a1_1) := (blk_cell BK292.out 1).trans rfl; have hfz9_0 := blk_frozen BK292.out 0; have hfz9_1 := blk_frozen BK292.out 1) | ((with_reducible refine gate_callee (f := 37) rfl ?_); refine goesL_ (some 8) rfl rfl Try.func37 (by kernel_rfl) rfl #[.string a0, .agg #[.int .i64 a1_0, .int .i64 a1_1]] rfl (by (try simp only [List.map_toArray, List.map_cons, List.map_nil]); first | done | rfl | (simp only [List.length_drop, List.length_take]; rfl)) ?_; (with_reducible refine (abugidaref06_Base.calls k a0 a1_0 a1_1 t293 _ A3.out).mono ?_); rintro e w10 ⟨rfl, hb⟩; refine ⟨_, rfl, ?_⟩; have n0_ := Aside0.mk (blk_below (g := gb292) (o := .cells #[.int .i64 a1_0, .int .i64 a1_1] 29 (0, 0)) (by (with_reducible repeat (first | refine blk_drewN ?_ _ | refine blk_drew ?_ | refine blk_alloc ?_ _)); exact BK292.out) hb); have n1_ := Aside0.mk (below_step (by repeat (first | (with_reducible first | exact HB.out | apply below_alloc | apply pw_below_drewN | apply below_drew1 | refine below_set ?_ GE292.out) | exact HB.out)) hb); clear BK292; clear HB; have BK292 := n0_; have HB := n1_; clear n0_ n1_; (try clear hb); (try clear hb2); (try clear hk); (try clear hi); have p6 : 0 ≤ (t293 : Int) := of_decide_eq_true (by first | (with_reducible assumption) | assumption); have q6 : t293 < (a0.size : Int) := of_decide_eq_true (by first | (with_reducible assumption) | assumption); have hx6 := bt_at a0 t293; replace p6 := eq_true p6; replace q6 := eq_true q6) | ((with_reducible refine gate_callee (f := 34) rfl ?_); refine goesL_ (some 11) rfl rfl Try.func34 (by kernel_rfl) rfl #[.int .i64 (wrap64 (bt a0 t293))] rfl (by (try simp only [List.map_toArray, List.map_cons, List.map_nil]); first | done | rfl | (simp only [List.length_drop, List.length_take]; rfl)) ?_; (with_reducible refine (abugidaref05_Class.calls k (wrap64 (bt a0 t293)) t294 _ A7.out).mono ?_); rintro e w' ⟨rfl, ⟨nd, rfl⟩⟩; refine ⟨_, rfl, ?_⟩))
      go_ret
      exact ⟨by first | rfl | (simp [errW_none, errW_some] <;> rfl) | (simp [*, errW_none, errW_some] <;> rfl), by repeat (first | (with_reducible first | exact HB.out | apply below_alloc | apply pw_below_drewN | apply below_drew1 | refine below_set ?_ GE292.out) | exact HB.out)⟩
    · rw [if_neg c5] at H
      exact absurd H (by simp)
  · rw [if_neg c4] at H
    exact absurd H (by simp)

/-! ### abugidaref17_letter: function 31 -/
def abugidaref17_letter.f (a0 : Int) : Option (Bool) := if a0 = 7 then (some true) else (some (a0 == 8))
set_option maxHeartbeats 8000000 in
set_option maxRecDepth 100000 in
theorem abugidaref17_letter.calls (a0 : Int) (r : Bool) (w : World) (h : abugidaref17_letter.f a0 = some r) :
    Calls Try.prog 31 #[.int .i64 a0] w fun e w' => e = .returned (.bool r) ∧ Drawn0 w w' := by
  have H : (if a0 = 7 then (some true) else (some (a0 == 8))) = some r := h
  clear h
  by_cases c2 : a0 = 7
  · rw [if_pos c2] at H
    have c2b0 : (a0 == 7) = true := beq_iff_eq.mpr c2
    have c2b1 : (a0 != 7) = false := bne_eq_false_iff_eq.mpr c2
    clear c2
    obtain rfl := Option.some.inj H
    go_enter Try.func31, Try.ntmps31
    go_wp2
    go_ret
    exact ⟨by first | rfl | (simp; done) | (simp [*]; done), by repeat (first | exact Drawn0.refl _ | apply Drawn0.step)⟩
  · rw [if_neg c2] at H
    have c2b0 : (a0 == 7) = false := beq_eq_false_iff_ne.mpr c2
    have c2b1 : (a0 != 7) = true := bne_iff_ne.mpr c2
    obtain rfl := Option.some.inj H
    go_enter Try.func31, Try.ntmps31
    go_wp2
    go_ret
    exact ⟨by first | rfl | (simp; done) | (simp [*]; done), by repeat (first | exact Drawn0.refl _ | apply Drawn0.step)⟩

/-! ### abugidaref17_on: function 30 -/
def abugidaref17_on.j0 : Nat → ByteArray → List (S29) → Int → Bool → Option (Bool)
  | 0, _, _, _, _ => none
  | k + 1, x0, x1, x2, x18 => if x18 = true then (some false) else (if 0 ≤ x2 then (if x2 < (x1.length : Int) then (if 0 ≤ (wrap64 (((rd_T29 x1 x2).f1) - 1)) then (if (wrap64 (((rd_T29 x1 x2).f1) - 1)) < (x0.size : Int) then ((abugidaref05_Class.f k (wrap64 (bt x0 (wrap64 (((rd_T29 x1 x2).f1) - 1))))).bind fun t298 => (if t298 = 14 then (some false) else (if t298 = 13 then (some true) else (if (wrap64 (x2 + 1)) < (x1.length : Int) then (if 0 ≤ (wrap64 (x2 + 1)) then ((abugidaref17_head.f k x0 ((rd_T29 x1 (wrap64 (x2 + 1))).f0) ((rd_T29 x1 (wrap64 (x2 + 1))).f1)).bind fun t300 => ((abugidaref17_letter.f t300).bind fun t301 => (some t301))) else (none)) else (some false))))) else (none)) else (none)) else (none)) else (none))
def abugidaref17_on.f (k : Nat) (a0 : ByteArray) (l1 : List (S29)) (a2 : Int) : Option (Bool) := if a2 < 0 then (abugidaref17_on.j0 k a0 l1 a2 true) else (if 0 ≤ a2 then (if a2 < (l1.length : Int) then ((abugidaref17_head.f k a0 ((rd_T29 l1 a2).f0) ((rd_T29 l1 a2).f1)).bind fun t296 => (abugidaref17_on.j0 k a0 l1 a2 (t296 != 7))) else (none)) else (none))
theorem abugidaref17_on.mono_l : ∀ k, (∀ y0 y1 y2 y3, LeO (abugidaref17_on.j0 k y0 y1 y2 y3) (abugidaref17_on.j0 (k + 1) y0 y1 y2 y3))
  | 0 => fun _ _ _ _ r h => by simp [abugidaref17_on.j0] at h
  | k + 1 => by
    have ih0 := abugidaref17_on.mono_l k
    · intro y0 y1 y2 y3
      unfold abugidaref17_on.j0
      repeat' first
      | (with_reducible exact ih0 _ _ _ _)
      | (with_reducible exact abugidaref05_Class.mono _ _)
      | (with_reducible exact abugidaref17_head.mono _ _ _ _)
      | (with_reducible exact LeO.refl _)
      | (with_reducible exact LeO.none _)
      | (with_reducible refine LeO.ite ?_ ?_)
      | (with_reducible refine LeO.bind ?_ (fun _ => ?_))
      | exact ih0 _ _ _ _
      | exact abugidaref05_Class.mono _ _
      | exact abugidaref17_head.mono _ _ _ _
      | exact LeO.none _
      | refine LeO.ite ?_ ?_
      | refine LeO.bind ?_ (fun _ => ?_)
theorem abugidaref17_on.mono : ∀ a0 a1 a2 k, LeO (abugidaref17_on.f k a0 a1 a2) (abugidaref17_on.f (k + 1) a0 a1 a2) := by
  intro a0 a1 a2 k
  have ih0 := abugidaref17_on.mono_l k
  unfold abugidaref17_on.f
  repeat' first
      | (with_reducible exact ih0 _ _ _ _)
      | (with_reducible exact abugidaref05_Class.mono _ _)
      | (with_reducible exact abugidaref17_head.mono _ _ _ _)
      | (with_reducible exact LeO.refl _)
      | (with_reducible exact LeO.none _)
      | (with_reducible refine LeO.ite ?_ ?_)
      | (with_reducible refine LeO.bind ?_ (fun _ => ?_))
      | exact ih0 _ _ _ _
      | exact abugidaref05_Class.mono _ _
      | exact abugidaref17_head.mono _ _ _ _
      | exact LeO.none _
      | refine LeO.ite ?_ ?_
      | refine LeO.bind ?_ (fun _ => ?_)
set_option maxHeartbeats 8000000 in
set_option maxRecDepth 100000 in
theorem abugidaref17_on.calls (k : Nat) (a0 : ByteArray) (A1 : Option Addr) (c1 : Nat) (l1 : List (S29)) (a2 : Int) (r : Bool) (w : World) (hr1 : Kd.C k29 w A1 l1.length l1) (hc1 : l1.length ≤ c1) (h : abugidaref17_on.f k a0 l1 a2 = some r) :
    Calls Try.prog 30 #[.string a0, .slice A1 l1.length c1, .int .i64 a2] w fun e w' => e = .returned (.bool r) ∧ Below w.heap.size w w' := by
  have hu29 := Try.underlying29
  have HR1 := Aside0.mk hr1
  have HC1 := Aside0.mk hc1
  clear hr1 hc1
  have HB := Aside0.mk (Below.refl w.heap.size w)
  have H : (if a2 < 0 then (abugidaref17_on.j0 k a0 l1 a2 true) else (if 0 ≤ a2 then (if a2 < (l1.length : Int) then ((abugidaref17_head.f k a0 ((rd_T29 l1 a2).f0) ((rd_T29 l1 a2).f1)).bind fun t296 => (abugidaref17_on.j0 k a0 l1 a2 (t296 != 7))) else (none)) else (none))) = some r := h
  clear h
  have HC4 := Aside0.mk H
  clear H
  go_enter Try.func30, Try.ntmps30
  go_upto_region 1 with (fail)
  go_cut [18] (fun v18 wc => ∃ (kq : Nat) (x18_3 : Bool), v18 = .bool x18_3 ∧ Aside0 (abugidaref17_on.j0 kq a0 l1 a2 x18_3 = some r) ∧ Aside0 (kq ≤ k) ∧ Aside0 (Below w.heap.size w wc))
  case first =>
    have H := HC4.out
    clear HC4
    by_cases c5 : a2 < 0
    · rw [if_pos c5] at H
      have c5b0 : decide (a2 < 0) = true := decide_eq_true c5
      clear c5
      (first | rw [c5b0] | (simp only [i64_w, i32_w]; rw [c5b0]) | skip)
      have H' := Aside0.mk H
      clear H
      go_wp2
      go_meet
      case rel => exact ⟨_, (true), (by first | rfl | (simp; done) | (simp [*]; done)), H', ⟨by first | omega | exact Nat.le_refl _⟩, ⟨by repeat (first | (with_reducible first | exact HB.out | apply below_alloc | apply pw_below_drewN | apply below_drew1) | exact HB.out)⟩⟩
    · rw [if_neg c5] at H
      have c5b0 : decide (a2 < 0) = false := decide_eq_false c5
      clear c5
      (first | rw [c5b0] | (simp only [i64_w, i32_w]; rw [c5b0]) | skip)
      by_cases c6 : 0 ≤ a2
      · rw [if_pos c6] at H
        have c6b0 : decide (0 ≤ a2) = true := decide_eq_true c6
        clear c6
        by_cases c7 : a2 < (l1.length : Int)
        · rw [if_pos c7] at H
          have c7b0 : decide (a2 < (l1.length : Int)) = true := decide_eq_true c7
          clear c7
          replace H := Option.bind_eq_some_iff.mp H
          obtain ⟨t296, A80, H⟩ := H
          replace H : (abugidaref17_on.j0 k a0 l1 a2 (t296 != 7)) = some r := H
          have A8 := Aside0.mk A80
          clear A80
          have H' := Aside0.mk H
          clear H
          have p295 : 0 ≤ (a2 : Int) := of_decide_eq_true (by first | (with_reducible assumption) | assumption)
          have q295 : a2 < (l1.length : Int) := of_decide_eq_true (by first | (with_reducible assumption) | assumption)
          obtain ⟨ad295, e295, hx295_0, hx295_1⟩ := at_T29 HR1.out a2 p295 q295
          cases e295
          replace hx295_0 := (HB.out.cell (World.block_lt_of_cell? w _ hx295_0)).trans hx295_0
          replace hx295_1 := (HB.out.cell (World.block_lt_of_cell? w _ hx295_1)).trans hx295_1
          replace p295 := eq_true p295
          replace q295 := eq_true q295
          go_wp2_with (first | (go_at_call 29; (with_reducible refine (abugidaref17_head.calls k a0 ((rd_T29 l1 a2).f0) ((rd_T29 l1 a2).f1) t296 _ A8.out).mono ?_); rintro e w9 ⟨rfl, hb⟩; have n0_ := Aside0.mk (below_step (by repeat (first | (with_reducible first | exact HB.out | apply below_alloc | apply pw_below_drewN | apply below_drew1) | exact HB.out)) hb); clear HB; have HB := n0_; clear n0_; (try clear hb); (try clear hb2); (try clear hk); (try clear hi)))
          go_meet
          case rel => exact ⟨_, ((t296 != 7)), (by first | rfl | (simp; done) | (simp [*]; done)), H', ⟨by first | omega | exact Nat.le_refl _⟩, ⟨by repeat (first | (with_reducible first | exact HB.out | apply below_alloc | apply pw_below_drewN | apply below_drew1) | exact HB.out)⟩⟩
        · rw [if_neg c7] at H
          exact absurd H (by simp)
      · rw [if_neg c6] at H
        exact absurd H (by simp)
  case rest =>
    clear HC4
    try clear c1
    try clear p2
    try clear q2
    try clear hx2
    try clear c3
    try clear c5
    try clear c5b0
    try clear c6
    try clear c6b0
    try clear c7
    try clear c7b0
    try clear hx295_0
    try clear hx295_1
    try clear p295
    try clear q295
    obtain ⟨kq, x18_3, rfl, HA, HJ3, HB⟩ := hcut
    cases kq with
    | zero => exact absurd HA.out (by simp [abugidaref17_on.j0])
    | succ kj3 =>
      have H := HA.out
      clear HA
      simp only [abugidaref17_on.j0] at H
      by_cases c10 : x18_3 = true
      · subst c10
        have H1 : (some false) = some r := by rw [if_pos rfl] at H; exact H
        clear H
        have H := H1
        clear H1
        obtain rfl := Option.some.inj H
        go_wp2
        go_ret
        exact ⟨by first | rfl | (simp [errW_none, errW_some] <;> rfl) | (simp [*, errW_none, errW_some] <;> rfl), by repeat (first | (with_reducible first | exact HB.out | apply below_alloc | apply pw_below_drewN | apply below_drew1) | exact HB.out)⟩
      · replace c10 := Bool.eq_false_iff.mpr c10
        subst c10
        have H1 : (if 0 ≤ a2 then (if a2 < (l1.length : Int) then (if 0 ≤ (wrap64 (((rd_T29 l1 a2).f1) - 1)) then (if (wrap64 (((rd_T29 l1 a2).f1) - 1)) < (a0.size : Int) then ((abugidaref05_Class.f kj3 (wrap64 (bt a0 (wrap64 (((rd_T29 l1 a2).f1) - 1))))).bind fun t298 => (if t298 = 14 then (some false) else (if t298 = 13 then (some true) else (if (wrap64 (a2 + 1)) < (l1.length : Int) then (if 0 ≤ (wrap64 (a2 + 1)) then ((abugidaref17_head.f kj3 a0 ((rd_T29 l1 (wrap64 (a2 + 1))).f0) ((rd_T29 l1 (wrap64 (a2 + 1))).f1)).bind fun t300 => ((abugidaref17_letter.f t300).bind fun t301 => (some t301))) else (none)) else (some false))))) else (none)) else (none)) else (none)) else (none)) = some r := by rw [if_neg (show ¬ (false = true) by decide)] at H; exact H
        clear H
        have H := H1
        clear H1
        by_cases c11 : 0 ≤ a2
        · rw [if_pos c11] at H
          have c11b0 : decide (0 ≤ a2) = true := decide_eq_true c11
          clear c11
          by_cases c12 : a2 < (l1.length : Int)
          · rw [if_pos c12] at H
            have c12b0 : decide (a2 < (l1.length : Int)) = true := decide_eq_true c12
            clear c12
            obtain ⟨ji13, hji13⟩ : ∃ j_ : Int, (wrap64 (((rd_T29 l1 a2).f1) - 1)) = j_ := ⟨_, rfl⟩
            replace H : (if 0 ≤ (ji13) then (if (ji13) < (a0.size : Int) then ((abugidaref05_Class.f kj3 (wrap64 (bt a0 (ji13)))).bind fun t298 => (if t298 = 14 then (some false) else (if t298 = 13 then (some true) else (if (wrap64 (a2 + 1)) < (l1.length : Int) then (if 0 ≤ (wrap64 (a2 + 1)) then ((abugidaref17_head.f kj3 a0 ((rd_T29 l1 (wrap64 (a2 + 1))).f0) ((rd_T29 l1 (wrap64 (a2 + 1))).f1)).bind fun t300 => ((abugidaref17_letter.f t300).bind fun t301 => (some t301))) else (none)) else (some false))))) else (none)) else (none)) = some r := by first | (rw [hji13] at H; exact H) | (simp only [hji13] at H ⊢; exact H)
            have hji13w : (IntKind.i64.wrap (((rd_T29 l1 a2).f1) - 1)) = ji13 := (i64_w _).trans hji13
            by_cases c14 : 0 ≤ (ji13)
            · rw [if_pos c14] at H
              have c14b0 : decide (0 ≤ (ji13)) = true := decide_eq_true c14
              clear c14
              by_cases c15 : (ji13) < (a0.size : Int)
              · rw [if_pos c15] at H
                have c15b0 : decide ((ji13) < (a0.size : Int)) = true := decide_eq_true c15
                clear c15
                replace H := Option.bind_eq_some_iff.mp H
                obtain ⟨t298, A170, H⟩ := H
                replace H : (if t298 = 14 then (some false) else (if t298 = 13 then (some true) else (if (wrap64 (a2 + 1)) < (l1.length : Int) then (if 0 ≤ (wrap64 (a2 + 1)) then ((abugidaref17_head.f kj3 a0 ((rd_T29 l1 (wrap64 (a2 + 1))).f0) ((rd_T29 l1 (wrap64 (a2 + 1))).f1)).bind fun t300 => ((abugidaref17_letter.f t300).bind fun t301 => (some t301))) else (none)) else (some false)))) = some r := H
                have A17 := Aside0.mk A170
                clear A170
                by_cases c18 : t298 = 14
                · rw [if_pos c18] at H
                  have c18b0 : (t298 == 14) = true := beq_iff_eq.mpr c18
                  have c18b1 : (t298 != 14) = false := bne_eq_false_iff_eq.mpr c18
                  clear c18
                  obtain rfl := Option.some.inj H
                  have p297 : 0 ≤ (a2 : Int) := of_decide_eq_true (by first | (with_reducible assumption) | assumption)
                  have q297 : a2 < (l1.length : Int) := of_decide_eq_true (by first | (with_reducible assumption) | assumption)
                  obtain ⟨ad297, e297, hx297_0, hx297_1⟩ := at_T29 HR1.out a2 p297 q297
                  cases e297
                  replace hx297_0 := (HB.out.cell (World.block_lt_of_cell? w _ hx297_0)).trans hx297_0
                  replace hx297_1 := (HB.out.cell (World.block_lt_of_cell? w _ hx297_1)).trans hx297_1
                  replace p297 := eq_true p297
                  replace q297 := eq_true q297
                  have p16 : 0 ≤ ((ji13) : Int) := of_decide_eq_true (by first | (with_reducible assumption) | assumption)
                  have q16 : (ji13) < (a0.size : Int) := of_decide_eq_true (by first | (with_reducible assumption) | assumption)
                  have hx16 := bt_at a0 (ji13)
                  replace p16 := eq_true p16
                  replace q16 := eq_true q16
                  go_wp2_with (first | ((with_reducible refine gate_callee (f := 34) rfl ?_); refine goesL_ (some 28) rfl rfl Try.func34 (by kernel_rfl) rfl #[.int .i64 (wrap64 (bt a0 (ji13)))] rfl (by (try simp only [List.map_toArray, List.map_cons, List.map_nil]); first | done | (simp only [hji13]; rfl) | rfl | (simp only [List.length_drop, List.length_take]; rfl)) ?_; (with_reducible refine (abugidaref05_Class.calls kj3 (wrap64 (bt a0 (ji13))) t298 _ A17.out).mono ?_); rintro e w' ⟨rfl, ⟨nd, rfl⟩⟩; refine ⟨_, rfl, ?_⟩))
                  go_ret
                  exact ⟨by first | rfl | (simp [errW_none, errW_some] <;> rfl) | (simp only [← hji13]; first | rfl | (simp [errW_none, errW_some] <;> rfl)) | (simp [*, errW_none, errW_some] <;> rfl), by repeat (first | (with_reducible first | exact HB.out | apply below_alloc | apply pw_below_drewN | apply below_drew1) | exact HB.out)⟩
                · rw [if_neg c18] at H
                  have c18b0 : (t298 == 14) = false := beq_eq_false_iff_ne.mpr c18
                  have c18b1 : (t298 != 14) = true := bne_iff_ne.mpr c18
                  by_cases c19 : t298 = 13
                  · rw [if_pos c19] at H
                    have c19b0 : (t298 == 13) = true := beq_iff_eq.mpr c19
                    have c19b1 : (t298 != 13) = false := bne_eq_false_iff_eq.mpr c19
                    clear c19
                    obtain rfl := Option.some.inj H
                    have p297 : 0 ≤ (a2 : Int) := of_decide_eq_true (by first | (with_reducible assumption) | assumption)
                    have q297 : a2 < (l1.length : Int) := of_decide_eq_true (by first | (with_reducible assumption) | assumption)
                    obtain ⟨ad297, e297, hx297_0, hx297_1⟩ := at_T29 HR1.out a2 p297 q297
                    cases e297
                    replace hx297_0 := (HB.out.cell (World.block_lt_of_cell? w _ hx297_0)).trans hx297_0
                    replace hx297_1 := (HB.out.cell (World.block_lt_of_cell? w _ hx297_1)).trans hx297_1
                    replace p297 := eq_true p297
                    replace q297 := eq_true q297
                    have p16 : 0 ≤ ((ji13) : Int) := of_decide_eq_true (by first | (with_reducible assumption) | assumption)
                    have q16 : (ji13) < (a0.size : Int) := of_decide_eq_true (by first | (with_reducible assumption) | assumption)
                    have hx16 := bt_at a0 (ji13)
                    replace p16 := eq_true p16
                    replace q16 := eq_true q16
                    go_wp2_with (first | ((with_reducible refine gate_callee (f := 34) rfl ?_); refine goesL_ (some 28) rfl rfl Try.func34 (by kernel_rfl) rfl #[.int .i64 (wrap64 (bt a0 (ji13)))] rfl (by (try simp only [List.map_toArray, List.map_cons, List.map_nil]); first | done | (simp only [hji13]; rfl) | rfl | (simp only [List.length_drop, List.length_take]; rfl)) ?_; (with_reducible refine (abugidaref05_Class.calls kj3 (wrap64 (bt a0 (ji13))) t298 _ A17.out).mono ?_); rintro e w' ⟨rfl, ⟨nd, rfl⟩⟩; refine ⟨_, rfl, ?_⟩))
                    go_ret
                    exact ⟨by first | rfl | (simp [errW_none, errW_some] <;> rfl) | (simp only [← hji13]; first | rfl | (simp [errW_none, errW_some] <;> rfl)) | (simp [*, errW_none, errW_some] <;> rfl), by repeat (first | (with_reducible first | exact HB.out | apply below_alloc | apply pw_below_drewN | apply below_drew1) | exact HB.out)⟩
                  · rw [if_neg c19] at H
                    have c19b0 : (t298 == 13) = false := beq_eq_false_iff_ne.mpr c19
                    have c19b1 : (t298 != 13) = true := bne_iff_ne.mpr c19
                    by_cases c20 : (wrap64 (a2 + 1)) < (l1.length : Int)
                    · rw [if_pos c20] at H
                      have c20b0 : decide ((wrap64 (a2 + 1)) < (l1.length : Int)) = true := decide_eq_true c20
                      clear c20
                      obtain ⟨ji21, hji21⟩ : ∃ j_ : Int, (wrap64 (a2 + 1)) = j_ := ⟨_, rfl⟩
                      replace H : (if 0 ≤ (ji21) then ((abugidaref17_head.f kj3 a0 ((rd_T29 l1 (ji21)).f0) ((rd_T29 l1 (ji21)).f1)).bind fun t300 => ((abugidaref17_letter.f t300).bind fun t301 => (some t301))) else (none)) = some r := by first | (rw [hji21] at H; exact H) | (simp only [hji21] at H ⊢; exact H)
                      (try rw [hji21] at c20b0)
                      (try rw [hji21] at A17)
                      have hji21w : (IntKind.i64.wrap (a2 + 1)) = ji21 := (i64_w _).trans hji21
                      by_cases c22 : 0 ≤ (ji21)
                      · rw [if_pos c22] at H
                        have c22b0 : decide (0 ≤ (ji21)) = true := decide_eq_true c22
                        clear c22
                        replace H := Option.bind_eq_some_iff.mp H
                        obtain ⟨t300, A230, H⟩ := H
                        replace H : ((abugidaref17_letter.f t300).bind fun t301 => (some t301)) = some r := H
                        have A23 := Aside0.mk A230
                        clear A230
                        replace H := Option.bind_eq_some_iff.mp H
                        obtain ⟨t301, A240, H⟩ := H
                        replace H : (some t301) = some r := H
                        have A24 := Aside0.mk A240
                        clear A240
                        obtain rfl := Option.some.inj H
                        have p297 : 0 ≤ (a2 : Int) := of_decide_eq_true (by first | (with_reducible assumption) | assumption)
                        have q297 : a2 < (l1.length : Int) := of_decide_eq_true (by first | (with_reducible assumption) | assumption)
                        obtain ⟨ad297, e297, hx297_0, hx297_1⟩ := at_T29 HR1.out a2 p297 q297
                        cases e297
                        replace hx297_0 := (HB.out.cell (World.block_lt_of_cell? w _ hx297_0)).trans hx297_0
                        replace hx297_1 := (HB.out.cell (World.block_lt_of_cell? w _ hx297_1)).trans hx297_1
                        replace p297 := eq_true p297
                        replace q297 := eq_true q297
                        have p16 : 0 ≤ ((ji13) : Int) := of_decide_eq_true (by first | (with_reducible assumption) | assumption)
                        have q16 : (ji13) < (a0.size : Int) := of_decide_eq_true (by first | (with_reducible assumption) | assumption)
                        have hx16 := bt_at a0 (ji13)
                        replace p16 := eq_true p16
                        replace q16 := eq_true q16
                        go_wp2_with (first | ((with_reducible refine gate_callee (f := 34) rfl ?_); refine goesL_ (some 28) rfl rfl Try.func34 (by kernel_rfl) rfl #[.int .i64 (wrap64 (bt a0 (ji13)))] rfl (by (try simp only [List.map_toArray, List.map_cons, List.map_nil]); first | done | (simp only [hji13]; rfl) | rfl | (simp only [List.length_drop, List.length_take]; rfl)) ?_; (with_reducible refine (abugidaref05_Class.calls kj3 (wrap64 (bt a0 (ji13))) t298 _ A17.out).mono ?_); rintro e w' ⟨rfl, ⟨nd, rfl⟩⟩; refine ⟨_, rfl, ?_⟩; have p299 : 0 ≤ ((ji21) : Int) := of_decide_eq_true (by first | (with_reducible assumption) | assumption); have q299 : (ji21) < (l1.length : Int) := of_decide_eq_true (by first | (with_reducible assumption) | assumption); obtain ⟨ad299, e299, hx299_0, hx299_1⟩ := at_T29 HR1.out (ji21) p299 q299; obtain rfl : ad297 = ad299 := (by injection e299); replace hx299_0 := (HB.out.cell (World.block_lt_of_cell? w _ hx299_0)).trans hx299_0; replace hx299_1 := (HB.out.cell (World.block_lt_of_cell? w _ hx299_1)).trans hx299_1; replace p299 := eq_true p299; replace q299 := eq_true q299) | (go_at_call 29; (with_reducible refine (abugidaref17_head.calls kj3 a0 ((rd_T29 l1 (ji21)).f0) ((rd_T29 l1 (ji21)).f1) t300 _ A23.out).mono ?_); rintro e w25 ⟨rfl, hb⟩; have n0_ := Aside0.mk (below_step (by repeat (first | (with_reducible first | exact HB.out | apply below_alloc | apply pw_below_drewN | apply below_drew1) | exact HB.out)) hb); clear HB; have HB := n0_; clear n0_; (try clear hb); (try clear hb2); (try clear hk); (try clear hi)) | (go_at_call 31; (with_reducible refine (abugidaref17_letter.calls t300 t301 _ A24.out).mono ?_); rintro e w' ⟨rfl, ⟨nd, rfl⟩⟩))
                        go_ret
                        exact ⟨by first | rfl | (simp [errW_none, errW_some] <;> rfl) | (simp only [← hji13, ← hji21]; first | rfl | (simp [errW_none, errW_some] <;> rfl)) | (simp [*, errW_none, errW_some] <;> rfl), by repeat (first | (with_reducible first | exact HB.out | apply below_alloc | apply pw_below_drewN | apply below_drew1) | exact HB.out)⟩
                      · rw [if_neg c22] at H
                        exact absurd H (by simp)
                    · rw [if_neg c20] at H
                      have c20b0 : decide ((wrap64 (a2 + 1)) < (l1.length : Int)) = false := decide_eq_false c20
                      clear c20
                      obtain rfl := Option.some.inj H
                      have p297 : 0 ≤ (a2 : Int) := of_decide_eq_true (by first | (with_reducible assumption) | assumption)
                      have q297 : a2 < (l1.length : Int) := of_decide_eq_true (by first | (with_reducible assumption) | assumption)
                      obtain ⟨ad297, e297, hx297_0, hx297_1⟩ := at_T29 HR1.out a2 p297 q297
                      cases e297
                      replace hx297_0 := (HB.out.cell (World.block_lt_of_cell? w _ hx297_0)).trans hx297_0
                      replace hx297_1 := (HB.out.cell (World.block_lt_of_cell? w _ hx297_1)).trans hx297_1
                      replace p297 := eq_true p297
                      replace q297 := eq_true q297
                      have p16 : 0 ≤ ((ji13) : Int) := of_decide_eq_true (by first | (with_reducible assumption) | assumption)
                      have q16 : (ji13) < (a0.size : Int) := of_decide_eq_true (by first | (with_reducible assumption) | assumption)
                      have hx16 := bt_at a0 (ji13)
                      replace p16 := eq_true p16
                      replace q16 := eq_true q16
                      go_wp2_with (first | ((with_reducible refine gate_callee (f := 34) rfl ?_); refine goesL_ (some 28) rfl rfl Try.func34 (by kernel_rfl) rfl #[.int .i64 (wrap64 (bt a0 (ji13)))] rfl (by (try simp only [List.map_toArray, List.map_cons, List.map_nil]); first | done | (simp only [hji13]; rfl) | rfl | (simp only [List.length_drop, List.length_take]; rfl)) ?_; (with_reducible refine (abugidaref05_Class.calls kj3 (wrap64 (bt a0 (ji13))) t298 _ A17.out).mono ?_); rintro e w' ⟨rfl, ⟨nd, rfl⟩⟩; refine ⟨_, rfl, ?_⟩))
                      go_ret
                      exact ⟨by first | rfl | (simp [errW_none, errW_some] <;> rfl) | (simp only [← hji13]; first | rfl | (simp [errW_none, errW_some] <;> rfl)) | (simp [*, errW_none, errW_some] <;> rfl), by repeat (first | (with_reducible first | exact HB.out | apply below_alloc | apply pw_below_drewN | apply below_drew1) | exact HB.out)⟩
              · rw [if_neg c15] at H
                exact absurd H (by simp)
            · rw [if_neg c14] at H
              exact absurd H (by simp)
          · rw [if_neg c12] at H
            exact absurd H (by simp)
        · rw [if_neg c11] at H
          exact absurd H (by simp)

end Go.Proofs.Ytgpdieogkcnfeaa.Q

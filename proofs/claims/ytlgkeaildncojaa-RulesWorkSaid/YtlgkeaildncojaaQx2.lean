-- Written by wip/tools/myprint.py, a program of this session that drives the kit's print.py; not a text of print.sh.
import Derived.Test.YtlgkeaildncojaaQx0
namespace Go.Proofs.Ytlgkeaildncojaa.Q
open Go.RowKit Go.Proofs.YtlgkeaildncojaaW.PrintWords Go.Proofs.YtlgkeaildncojaaW.PrintLast Go.Proofs.YtlgkeaildncojaaW.PrintMore
attribute [local go_sem] max2_int min2_int max_two min_two max_three min_three max_four min_four   -- for this text's walks alone
set_option linter.unusedVariables false
set_option linter.unusedSimpArgs false

-- NOT PRINTED: function 62 (slices_IndexFunc_int_int_62)

-- NOT PRINTED: function 45 (slices_ContainsFunc_int_int_45)

/-! ### rules_checkRule_1_1: function 46 -/
def rules_checkRule_1_1.f (a0 : Int) (a1 : Int) : Option (Bool) := if a0 < 0 then (some true) else (some (decide (a0 ≥ a1)))
set_option maxHeartbeats 8000000 in
set_option maxRecDepth 100000 in
theorem rules_checkRule_1_1.calls {gb50 : Nat} (a0 : Int) (a1 : Int) (r : Bool) (w : World) (hb50 : w.heap[gb50]? = some (.cells #[.int .i64 a1] 3 (0, 0))) (h : rules_checkRule_1_1.f a0 a1 = some r) :
    Calls Try.prog 46 #[.int .i64 a0, .pointer (some ⟨gb50, 0, none⟩)] w fun e w' => e = .returned (.bool r) ∧ Below w.heap.size w w' := by
  have BK50 := Aside0.mk hb50
  clear hb50
  have HB := Aside0.mk (Below.refl w.heap.size w)
  have H : (if a0 < 0 then (some true) else (some (decide (a0 ≥ a1)))) = some r := h
  clear h
  by_cases c3 : a0 < 0
  · rw [if_pos c3] at H
    have c3b0 : decide (a0 < 0) = true := decide_eq_true c3
    clear c3
    obtain rfl := Option.some.inj H
    go_enter Try.func46, Try.ntmps46
    go_wp2
    go_ret
    exact ⟨by first | rfl | (simp [errW_none, errW_some] <;> rfl) | (simp [*, errW_none, errW_some] <;> rfl), by repeat (first | (with_reducible first | exact HB.out | apply below_alloc | apply pw_below_drewN | apply below_drew1 | refine below_set ?_ GE50.out) | exact HB.out)⟩
  · rw [if_neg c3] at H
    have c3b0 : decide (a0 < 0) = false := decide_eq_false c3
    clear c3
    obtain rfl := Option.some.inj H
    have hcz4_0 : w.cell? ⟨gb50, 0, none⟩ = some (.int .i64 a1) := (blk_cell BK50.out 0).trans rfl
    have hfz4_0 := blk_frozen BK50.out 0
    go_enter Try.func46, Try.ntmps46
    go_wp2
    go_ret
    exact ⟨by first | rfl | (simp [errW_none, errW_some] <;> rfl) | (simp [*, errW_none, errW_some] <;> rfl), by repeat (first | (with_reducible first | exact HB.out | apply below_alloc | apply pw_below_drewN | apply below_drew1 | refine below_set ?_ GE50.out) | exact HB.out)⟩

-- NOT PRINTED: function 44 (rules_checkRule_1)

/-! ### rules_checkRule_2: function 47 -/
def rules_checkRule_2.f (a0_0 : Int) (a0_1 : Int) (l1_0 : List (List Int)) (l1_1 : List (List Int)) (l1_2 : List (List Int)) (l1_3 : List Int) (l1_4 : List (S60)) (a2 : Int) (a3 : Int) : Option (Bool) := if a0_0 < 0 then (some true) else (if a0_0 ≥ (l1_1.length : Int) then (some true) else (if a0_1 ≤ a2 then (some true) else (some (decide (a0_1 ≥ a3)))))
set_option maxHeartbeats 8000000 in
set_option maxRecDepth 100000 in
theorem rules_checkRule_2.calls {gb50 : Nat} {gb51 : Nat} {gb52 : Nat} (a0_0 : Int) (a0_1 : Int) (A1_0 : Option Addr) (c1_0 : Nat) (l1_0 : List (List Int)) (A1_1 : Option Addr) (c1_1 : Nat) (l1_1 : List (List Int)) (A1_2 : Option Addr) (c1_2 : Nat) (l1_2 : List (List Int)) (A1_3 : Option Addr) (c1_3 : Nat) (l1_3 : List Int) (A1_4 : Option Addr) (c1_4 : Nat) (l1_4 : List (S60)) (a2 : Int) (a3 : Int) (r : Bool) (w : World) (hr1_0 : Kd.C (Kd.slice 3 (Kd.int .i64)) w A1_0 l1_0.length l1_0) (hc1_0 : l1_0.length ≤ c1_0) (hr1_1 : Kd.C (Kd.slice 3 (Kd.int .i64)) w A1_1 l1_1.length l1_1) (hc1_1 : l1_1.length ≤ c1_1) (hr1_2 : Kd.C (Kd.slice 3 (Kd.int .i64)) w A1_2 l1_2.length l1_2) (hc1_2 : l1_2.length ≤ c1_2) (hr1_3 : Kd.C (Kd.int .i64) w A1_3 l1_3.length l1_3) (hc1_3 : l1_3.length ≤ c1_3) (hr1_4 : Kd.C k60 w A1_4 l1_4.length l1_4) (hc1_4 : l1_4.length ≤ c1_4) (hb50 : w.heap[gb50]? = some (.cells #[.slice A1_0 l1_0.length c1_0, .slice A1_1 l1_1.length c1_1, .slice A1_2 l1_2.length c1_2, .slice A1_3 l1_3.length c1_3, .slice A1_4 l1_4.length c1_4] 49 (0, 0))) (hb51 : w.heap[gb51]? = some (.cells #[.int .i64 a2] 3 (0, 0))) (hb52 : w.heap[gb52]? = some (.cells #[.int .i64 a3] 3 (0, 0))) (hn50_51 : gb50 ≠ gb51) (hn50_52 : gb50 ≠ gb52) (hn51_52 : gb51 ≠ gb52) (h : rules_checkRule_2.f a0_0 a0_1 l1_0 l1_1 l1_2 l1_3 l1_4 a2 a3 = some r) :
    Calls Try.prog 47 #[.agg #[.int .i64 a0_0, .int .i64 a0_1], .pointer (some ⟨gb50, 0, none⟩), .pointer (some ⟨gb51, 0, none⟩), .pointer (some ⟨gb52, 0, none⟩)] w fun e w' => e = .returned (.bool r) ∧ Below w.heap.size w w' := by
  have hu60 := Try.underlying60
  have HR1_0 := Aside0.mk hr1_0
  have HC1_0 := Aside0.mk hc1_0
  clear hr1_0 hc1_0
  have HR1_1 := Aside0.mk hr1_1
  have HC1_1 := Aside0.mk hc1_1
  clear hr1_1 hc1_1
  have HR1_2 := Aside0.mk hr1_2
  have HC1_2 := Aside0.mk hc1_2
  clear hr1_2 hc1_2
  have HR1_3 := Aside0.mk hr1_3
  have HC1_3 := Aside0.mk hc1_3
  clear hr1_3 hc1_3
  have HR1_4 := Aside0.mk hr1_4
  have HC1_4 := Aside0.mk hc1_4
  clear hr1_4 hc1_4
  have BK50 := Aside0.mk hb50
  clear hb50
  have BK51 := Aside0.mk hb51
  clear hb51
  have BK52 := Aside0.mk hb52
  clear hb52
  have NB50_51 := Aside0.mk hn50_51
  have NB51_50 := Aside0.mk (Ne.symm hn50_51)
  clear hn50_51
  have NB50_52 := Aside0.mk hn50_52
  have NB52_50 := Aside0.mk (Ne.symm hn50_52)
  clear hn50_52
  have NB51_52 := Aside0.mk hn51_52
  have NB52_51 := Aside0.mk (Ne.symm hn51_52)
  clear hn51_52
  have HB := Aside0.mk (Below.refl w.heap.size w)
  have H : (if a0_0 < 0 then (some true) else (if a0_0 ≥ (l1_1.length : Int) then (some true) else (if a0_1 ≤ a2 then (some true) else (some (decide (a0_1 ≥ a3)))))) = some r := h
  clear h
  by_cases c5 : a0_0 < 0
  · rw [if_pos c5] at H
    have c5b0 : decide (a0_0 < 0) = true := decide_eq_true c5
    clear c5
    obtain rfl := Option.some.inj H
    go_enter Try.func47, Try.ntmps47
    go_wp2_with (first | ((with_reducible refine gate_dst (N := 4) rfl ?_); (try (refine gate_guard (by rfl) ?_; dsimp only)); refine box_event ?hg (N := 4) ?hd (cs := #[.int .i64 a0_0, .int .i64 a0_1]) (t := 60) ?hr ?_; (case hd => rfl); (case hg => rfl); (case hr => first | (go_simp; done) | (go_simp; rfl)); intro gb101 hg w6 hbox hb; have n0_ := Aside0.mk (blk_below (g := gb50) (o := .cells #[.slice A1_0 l1_0.length c1_0, .slice A1_1 l1_1.length c1_1, .slice A1_2 l1_2.length c1_2, .slice A1_3 l1_3.length c1_3, .slice A1_4 l1_4.length c1_4] 49 (0, 0)) (by (with_reducible repeat (first | refine blk_drewN ?_ _ | refine blk_drew ?_ | refine blk_alloc ?_ _)); exact BK50.out) hb); have n1_ := Aside0.mk (blk_below (g := gb51) (o := .cells #[.int .i64 a2] 3 (0, 0)) (by (with_reducible repeat (first | refine blk_drewN ?_ _ | refine blk_drew ?_ | refine blk_alloc ?_ _)); exact BK51.out) hb); have n2_ := Aside0.mk (blk_below (g := gb52) (o := .cells #[.int .i64 a3] 3 (0, 0)) (by (with_reducible repeat (first | refine blk_drewN ?_ _ | refine blk_drew ?_ | refine blk_alloc ?_ _)); exact BK52.out) hb); have n3_ := Aside0.mk (below_step (by repeat (first | (with_reducible first | exact HB.out | apply below_alloc | apply pw_below_drewN | apply below_drew1 | refine below_set ?_ GE50.out | refine below_set ?_ GE51.out | refine below_set ?_ GE52.out) | exact HB.out)) hb); have n4_ := Aside0.mk (hbox); have n5_ := Aside0.mk ((by rw [hg]; exact (below_size (by repeat (first | (with_reducible first | exact HB.out | apply below_alloc | apply pw_below_drewN | apply below_drew1 | refine below_set ?_ GE50.out | refine below_set ?_ GE51.out | refine below_set ?_ GE52.out) | exact HB.out))) : w.heap.size ≤ gb101)); have n6_ := Aside0.mk ((by rw [hg]; exact (below_size (by repeat (first | (with_reducible first | exact HB.out | apply below_alloc | apply pw_below_drewN | apply below_drew1 | refine below_set ?_ GE50.out | refine below_set ?_ GE51.out | refine below_set ?_ GE52.out) | exact HB.out))) : w.heap.size ≤ gb101)); have n7_ := Aside0.mk ((by rw [hg]; exact Nat.ne_of_lt (blk_lt (g := gb50) (o := .cells #[.slice A1_0 l1_0.length c1_0, .slice A1_1 l1_1.length c1_1, .slice A1_2 l1_2.length c1_2, .slice A1_3 l1_3.length c1_3, .slice A1_4 l1_4.length c1_4] 49 (0, 0)) (by (with_reducible repeat (first | refine blk_drewN ?_ _ | refine blk_drew ?_ | refine blk_alloc ?_ _)); exact BK50.out)) : gb50 ≠ gb101)); have n8_ := Aside0.mk ((by rw [hg]; exact Nat.ne_of_gt (blk_lt (g := gb50) (o := .cells #[.slice A1_0 l1_0.length c1_0, .slice A1_1 l1_1.length c1_1, .slice A1_2 l1_2.length c1_2, .slice A1_3 l1_3.length c1_3, .slice A1_4 l1_4.length c1_4] 49 (0, 0)) (by (with_reducible repeat (first | refine blk_drewN ?_ _ | refine blk_drew ?_ | refine blk_alloc ?_ _)); exact BK50.out)) : gb101 ≠ gb50)); have n9_ := Aside0.mk ((by rw [hg]; exact Nat.ne_of_lt (blk_lt (g := gb51) (o := .cells #[.int .i64 a2] 3 (0, 0)) (by (with_reducible repeat (first | refine blk_drewN ?_ _ | refine blk_drew ?_ | refine blk_alloc ?_ _)); exact BK51.out)) : gb51 ≠ gb101)); have n10_ := Aside0.mk ((by rw [hg]; exact Nat.ne_of_gt (blk_lt (g := gb51) (o := .cells #[.int .i64 a2] 3 (0, 0)) (by (with_reducible repeat (first | refine blk_drewN ?_ _ | refine blk_drew ?_ | refine blk_alloc ?_ _)); exact BK51.out)) : gb101 ≠ gb51)); have n11_ := Aside0.mk ((by rw [hg]; exact Nat.ne_of_lt (blk_lt (g := gb52) (o := .cells #[.int .i64 a3] 3 (0, 0)) (by (with_reducible repeat (first | refine blk_drewN ?_ _ | refine blk_drew ?_ | refine blk_alloc ?_ _)); exact BK52.out)) : gb52 ≠ gb101)); have n12_ := Aside0.mk ((by rw [hg]; exact Nat.ne_of_gt (blk_lt (g := gb52) (o := .cells #[.int .i64 a3] 3 (0, 0)) (by (with_reducible repeat (first | refine blk_drewN ?_ _ | refine blk_drew ?_ | refine blk_alloc ?_ _)); exact BK52.out)) : gb101 ≠ gb52)); clear BK50; clear BK51; clear BK52; clear HB; have BK50 := n0_; have BK51 := n1_; have BK52 := n2_; have HB := n3_; have BK101 := n4_; have GW101 := n5_; have GE101 := n6_; have NB50_101 := n7_; have NB101_50 := n8_; have NB51_101 := n9_; have NB101_51 := n10_; have NB52_101 := n11_; have NB101_52 := n12_; clear n0_ n1_ n2_ n3_ n4_ n5_ n6_ n7_ n8_ n9_ n10_ n11_ n12_; clear hb hbox hg; have hnb7 := NB101_50.out; have hnc7 := NB50_101.out; have hnb8 := NB101_51.out; have hnc8 := NB51_101.out; have hnb9 := NB101_52.out; have hnc9 := NB52_101.out; have hcz10_0 : w6.cell? ⟨gb101, 0, none⟩ = some (.int .i64 a0_0) := (blk_cell BK101.out 0).trans rfl; have hcz10_1 : w6.cell? ⟨gb101, 1, none⟩ = some (.int .i64 a0_1) := (blk_cell BK101.out 1).trans rfl; have hfz10_0 := blk_frozen BK101.out 0; have hfz10_1 := blk_frozen BK101.out 1))
    go_ret
    exact ⟨by first | rfl | (simp [errW_none, errW_some] <;> rfl) | (simp [*, errW_none, errW_some] <;> rfl), by repeat (first | (with_reducible first | exact HB.out | apply below_alloc | apply pw_below_drewN | apply below_drew1 | refine below_set ?_ GE50.out | refine below_set ?_ GE51.out | refine below_set ?_ GE52.out | refine below_set ?_ GE101.out) | exact HB.out)⟩
  · rw [if_neg c5] at H
    have c5b0 : decide (a0_0 < 0) = false := decide_eq_false c5
    clear c5
    by_cases c11 : a0_0 ≥ (l1_1.length : Int)
    · rw [if_pos c11] at H
      have c11b0 : decide ((l1_1.length : Int) ≤ a0_0) = true := decide_eq_true c11
      clear c11
      obtain rfl := Option.some.inj H
      go_enter Try.func47, Try.ntmps47
      go_wp2_with (first | ((with_reducible refine gate_dst (N := 4) rfl ?_); (try (refine gate_guard (by rfl) ?_; dsimp only)); refine box_event ?hg (N := 4) ?hd (cs := #[.int .i64 a0_0, .int .i64 a0_1]) (t := 60) ?hr ?_; (case hd => rfl); (case hg => rfl); (case hr => first | (go_simp; done) | (go_simp; rfl)); intro gb101 hg w12 hbox hb; have n0_ := Aside0.mk (blk_below (g := gb50) (o := .cells #[.slice A1_0 l1_0.length c1_0, .slice A1_1 l1_1.length c1_1, .slice A1_2 l1_2.length c1_2, .slice A1_3 l1_3.length c1_3, .slice A1_4 l1_4.length c1_4] 49 (0, 0)) (by (with_reducible repeat (first | refine blk_drewN ?_ _ | refine blk_drew ?_ | refine blk_alloc ?_ _)); exact BK50.out) hb); have n1_ := Aside0.mk (blk_below (g := gb51) (o := .cells #[.int .i64 a2] 3 (0, 0)) (by (with_reducible repeat (first | refine blk_drewN ?_ _ | refine blk_drew ?_ | refine blk_alloc ?_ _)); exact BK51.out) hb); have n2_ := Aside0.mk (blk_below (g := gb52) (o := .cells #[.int .i64 a3] 3 (0, 0)) (by (with_reducible repeat (first | refine blk_drewN ?_ _ | refine blk_drew ?_ | refine blk_alloc ?_ _)); exact BK52.out) hb); have n3_ := Aside0.mk (below_step (by repeat (first | (with_reducible first | exact HB.out | apply below_alloc | apply pw_below_drewN | apply below_drew1 | refine below_set ?_ GE50.out | refine below_set ?_ GE51.out | refine below_set ?_ GE52.out) | exact HB.out)) hb); have n4_ := Aside0.mk (hbox); have n5_ := Aside0.mk ((by rw [hg]; exact (below_size (by repeat (first | (with_reducible first | exact HB.out | apply below_alloc | apply pw_below_drewN | apply below_drew1 | refine below_set ?_ GE50.out | refine below_set ?_ GE51.out | refine below_set ?_ GE52.out) | exact HB.out))) : w.heap.size ≤ gb101)); have n6_ := Aside0.mk ((by rw [hg]; exact (below_size (by repeat (first | (with_reducible first | exact HB.out | apply below_alloc | apply pw_below_drewN | apply below_drew1 | refine below_set ?_ GE50.out | refine below_set ?_ GE51.out | refine below_set ?_ GE52.out) | exact HB.out))) : w.heap.size ≤ gb101)); have n7_ := Aside0.mk ((by rw [hg]; exact Nat.ne_of_lt (blk_lt (g := gb50) (o := .cells #[.slice A1_0 l1_0.length c1_0, .slice A1_1 l1_1.length c1_1, .slice A1_2 l1_2.length c1_2, .slice A1_3 l1_3.length c1_3, .slice A1_4 l1_4.length c1_4] 49 (0, 0)) (by (with_reducible repeat (first | refine blk_drewN ?_ _ | refine blk_drew ?_ | refine blk_alloc ?_ _)); exact BK50.out)) : gb50 ≠ gb101)); have n8_ := Aside0.mk ((by rw [hg]; exact Nat.ne_of_gt (blk_lt (g := gb50) (o := .cells #[.slice A1_0 l1_0.length c1_0, .slice A1_1 l1_1.length c1_1, .slice A1_2 l1_2.length c1_2, .slice A1_3 l1_3.length c1_3, .slice A1_4 l1_4.length c1_4] 49 (0, 0)) (by (with_reducible repeat (first | refine blk_drewN ?_ _ | refine blk_drew ?_ | refine blk_alloc ?_ _)); exact BK50.out)) : gb101 ≠ gb50)); have n9_ := Aside0.mk ((by rw [hg]; exact Nat.ne_of_lt (blk_lt (g := gb51) (o := .cells #[.int .i64 a2] 3 (0, 0)) (by (with_reducible repeat (first | refine blk_drewN ?_ _ | refine blk_drew ?_ | refine blk_alloc ?_ _)); exact BK51.out)) : gb51 ≠ gb101)); have n10_ := Aside0.mk ((by rw [hg]; exact Nat.ne_of_gt (blk_lt (g := gb51) (o := .cells #[.int .i64 a2] 3 (0, 0)) (by (with_reducible repeat (first | refine blk_drewN ?_ _ | refine blk_drew ?_ | refine blk_alloc ?_ _)); exact BK51.out)) : gb101 ≠ gb51)); have n11_ := Aside0.mk ((by rw [hg]; exact Nat.ne_of_lt (blk_lt (g := gb52) (o := .cells #[.int .i64 a3] 3 (0, 0)) (by (with_reducible repeat (first | refine blk_drewN ?_ _ | refine blk_drew ?_ | refine blk_alloc ?_ _)); exact BK52.out)) : gb52 ≠ gb101)); have n12_ := Aside0.mk ((by rw [hg]; exact Nat.ne_of_gt (blk_lt (g := gb52) (o := .cells #[.int .i64 a3] 3 (0, 0)) (by (with_reducible repeat (first | refine blk_drewN ?_ _ | refine blk_drew ?_ | refine blk_alloc ?_ _)); exact BK52.out)) : gb101 ≠ gb52)); clear BK50; clear BK51; clear BK52; clear HB; have BK50 := n0_; have BK51 := n1_; have BK52 := n2_; have HB := n3_; have BK101 := n4_; have GW101 := n5_; have GE101 := n6_; have NB50_101 := n7_; have NB101_50 := n8_; have NB51_101 := n9_; have NB101_51 := n10_; have NB52_101 := n11_; have NB101_52 := n12_; clear n0_ n1_ n2_ n3_ n4_ n5_ n6_ n7_ n8_ n9_ n10_ n11_ n12_; clear hb hbox hg; have hnb13 := NB101_50.out; have hnc13 := NB50_101.out; have hnb14 := NB101_51.out; have hnc14 := NB51_101.out; have hnb15 := NB101_52.out; have hnc15 := NB52_101.out; have hcz16_0 : w12.cell? ⟨gb101, 0, none⟩ = some (.int .i64 a0_0) := (blk_cell BK101.out 0).trans rfl; have hcz16_1 : w12.cell? ⟨gb101, 1, none⟩ = some (.int .i64 a0_1) := (blk_cell BK101.out 1).trans rfl; have hfz16_0 := blk_frozen BK101.out 0; have hfz16_1 := blk_frozen BK101.out 1; have hnb17 := NB50_51.out; have hnc17 := NB51_50.out; have hnb18 := NB50_52.out; have hnc18 := NB52_50.out; have hcz19_0 : w12.cell? ⟨gb50, 0, none⟩ = some (.slice A1_0 l1_0.length c1_0) := (blk_cell BK50.out 0).trans rfl; have hcz19_1 : w12.cell? ⟨gb50, 1, none⟩ = some (.slice A1_1 l1_1.length c1_1) := (blk_cell BK50.out 1).trans rfl; have hcz19_2 : w12.cell? ⟨gb50, 2, none⟩ = some (.slice A1_2 l1_2.length c1_2) := (blk_cell BK50.out 2).trans rfl; have hcz19_3 : w12.cell? ⟨gb50, 3, none⟩ = some (.slice A1_3 l1_3.length c1_3) := (blk_cell BK50.out 3).trans rfl; have hcz19_4 : w12.cell? ⟨gb50, 4, none⟩ = some (.slice A1_4 l1_4.length c1_4) := (blk_cell BK50.out 4).trans rfl; have hfz19_0 := blk_frozen BK50.out 0; have hfz19_1 := blk_frozen BK50.out 1; have hfz19_2 := blk_frozen BK50.out 2; have hfz19_3 := blk_frozen BK50.out 3; have hfz19_4 := blk_frozen BK50.out 4))
      go_ret
      exact ⟨by first | rfl | (simp [errW_none, errW_some] <;> rfl) | (simp [*, errW_none, errW_some] <;> rfl), by repeat (first | (with_reducible first | exact HB.out | apply below_alloc | apply pw_below_drewN | apply below_drew1 | refine below_set ?_ GE50.out | refine below_set ?_ GE51.out | refine below_set ?_ GE52.out | refine below_set ?_ GE101.out) | exact HB.out)⟩
    · rw [if_neg c11] at H
      have c11b0 : decide ((l1_1.length : Int) ≤ a0_0) = false := decide_eq_false c11
      clear c11
      by_cases c20 : a0_1 ≤ a2
      · rw [if_pos c20] at H
        have c20b0 : decide (a0_1 ≤ a2) = true := decide_eq_true c20
        clear c20
        obtain rfl := Option.some.inj H
        go_enter Try.func47, Try.ntmps47
        go_wp2_with (first | ((with_reducible refine gate_dst (N := 4) rfl ?_); (try (refine gate_guard (by rfl) ?_; dsimp only)); refine box_event ?hg (N := 4) ?hd (cs := #[.int .i64 a0_0, .int .i64 a0_1]) (t := 60) ?hr ?_; (case hd => rfl); (case hg => rfl); (case hr => first | (go_simp; done) | (go_simp; rfl)); intro gb101 hg w21 hbox hb; have n0_ := Aside0.mk (blk_below (g := gb50) (o := .cells #[.slice A1_0 l1_0.length c1_0, .slice A1_1 l1_1.length c1_1, .slice A1_2 l1_2.length c1_2, .slice A1_3 l1_3.length c1_3, .slice A1_4 l1_4.length c1_4] 49 (0, 0)) (by (with_reducible repeat (first | refine blk_drewN ?_ _ | refine blk_drew ?_ | refine blk_alloc ?_ _)); exact BK50.out) hb); have n1_ := Aside0.mk (blk_below (g := gb51) (o := .cells #[.int .i64 a2] 3 (0, 0)) (by (with_reducible repeat (first | refine blk_drewN ?_ _ | refine blk_drew ?_ | refine blk_alloc ?_ _)); exact BK51.out) hb); have n2_ := Aside0.mk (blk_below (g := gb52) (o := .cells #[.int .i64 a3] 3 (0, 0)) (by (with_reducible repeat (first | refine blk_drewN ?_ _ | refine blk_drew ?_ | refine blk_alloc ?_ _)); exact BK52.out) hb); have n3_ := Aside0.mk (below_step (by repeat (first | (with_reducible first | exact HB.out | apply below_alloc | apply pw_below_drewN | apply below_drew1 | refine below_set ?_ GE50.out | refine below_set ?_ GE51.out | refine below_set ?_ GE52.out) | exact HB.out)) hb); have n4_ := Aside0.mk (hbox); have n5_ := Aside0.mk ((by rw [hg]; exact (below_size (by repeat (first | (with_reducible first | exact HB.out | apply below_alloc | apply pw_below_drewN | apply below_drew1 | refine below_set ?_ GE50.out | refine below_set ?_ GE51.out | refine below_set ?_ GE52.out) | exact HB.out))) : w.heap.size ≤ gb101)); have n6_ := Aside0.mk ((by rw [hg]; exact (below_size (by repeat (first | (with_reducible first | exact HB.out | apply below_alloc | apply pw_below_drewN | apply below_drew1 | refine below_set ?_ GE50.out | refine below_set ?_ GE51.out | refine below_set ?_ GE52.out) | exact HB.out))) : w.heap.size ≤ gb101)); have n7_ := Aside0.mk ((by rw [hg]; exact Nat.ne_of_lt (blk_lt (g := gb50) (o := .cells #[.slice A1_0 l1_0.length c1_0, .slice A1_1 l1_1.length c1_1, .slice A1_2 l1_2.length c1_2, .slice A1_3 l1_3.length c1_3, .slice A1_4 l1_4.length c1_4] 49 (0, 0)) (by (with_reducible repeat (first | refine blk_drewN ?_ _ | refine blk_drew ?_ | refine blk_alloc ?_ _)); exact BK50.out)) : gb50 ≠ gb101)); have n8_ := Aside0.mk ((by rw [hg]; exact Nat.ne_of_gt (blk_lt (g := gb50) (o := .cells #[.slice A1_0 l1_0.length c1_0, .slice A1_1 l1_1.length c1_1, .slice A1_2 l1_2.length c1_2, .slice A1_3 l1_3.length c1_3, .slice A1_4 l1_4.length c1_4] 49 (0, 0)) (by (with_reducible repeat (first | refine blk_drewN ?_ _ | refine blk_drew ?_ | refine blk_alloc ?_ _)); exact BK50.out)) : gb101 ≠ gb50)); have n9_ := Aside0.mk ((by rw [hg]; exact Nat.ne_of_lt (blk_lt (g := gb51) (o := .cells #[.int .i64 a2] 3 (0, 0)) (by (with_reducible repeat (first | refine blk_drewN ?_ _ | refine blk_drew ?_ | refine blk_alloc ?_ _)); exact BK51.out)) : gb51 ≠ gb101)); have n10_ := Aside0.mk ((by rw [hg]; exact Nat.ne_of_gt (blk_lt (g := gb51) (o := .cells #[.int .i64 a2] 3 (0, 0)) (by (with_reducible repeat (first | refine blk_drewN ?_ _ | refine blk_drew ?_ | refine blk_alloc ?_ _)); exact BK51.out)) : gb101 ≠ gb51)); have n11_ := Aside0.mk ((by rw [hg]; exact Nat.ne_of_lt (blk_lt (g := gb52) (o := .cells #[.int .i64 a3] 3 (0, 0)) (by (with_reducible repeat (first | refine blk_drewN ?_ _ | refine blk_drew ?_ | refine blk_alloc ?_ _)); exact BK52.out)) : gb52 ≠ gb101)); have n12_ := Aside0.mk ((by rw [hg]; exact Nat.ne_of_gt (blk_lt (g := gb52) (o := .cells #[.int .i64 a3] 3 (0, 0)) (by (with_reducible repeat (first | refine blk_drewN ?_ _ | refine blk_drew ?_ | refine blk_alloc ?_ _)); exact BK52.out)) : gb101 ≠ gb52)); clear BK50; clear BK51; clear BK52; clear HB; have BK50 := n0_; have BK51 := n1_; have BK52 := n2_; have HB := n3_; have BK101 := n4_; have GW101 := n5_; have GE101 := n6_; have NB50_101 := n7_; have NB101_50 := n8_; have NB51_101 := n9_; have NB101_51 := n10_; have NB52_101 := n11_; have NB101_52 := n12_; clear n0_ n1_ n2_ n3_ n4_ n5_ n6_ n7_ n8_ n9_ n10_ n11_ n12_; clear hb hbox hg; have hnb22 := NB101_50.out; have hnc22 := NB50_101.out; have hnb23 := NB101_51.out; have hnc23 := NB51_101.out; have hnb24 := NB101_52.out; have hnc24 := NB52_101.out; have hcz25_0 : w21.cell? ⟨gb101, 0, none⟩ = some (.int .i64 a0_0) := (blk_cell BK101.out 0).trans rfl; have hcz25_1 : w21.cell? ⟨gb101, 1, none⟩ = some (.int .i64 a0_1) := (blk_cell BK101.out 1).trans rfl; have hfz25_0 := blk_frozen BK101.out 0; have hfz25_1 := blk_frozen BK101.out 1; have hnb26 := NB50_51.out; have hnc26 := NB51_50.out; have hnb27 := NB50_52.out; have hnc27 := NB52_50.out; have hcz28_0 : w21.cell? ⟨gb50, 0, none⟩ = some (.slice A1_0 l1_0.length c1_0) := (blk_cell BK50.out 0).trans rfl; have hcz28_1 : w21.cell? ⟨gb50, 1, none⟩ = some (.slice A1_1 l1_1.length c1_1) := (blk_cell BK50.out 1).trans rfl; have hcz28_2 : w21.cell? ⟨gb50, 2, none⟩ = some (.slice A1_2 l1_2.length c1_2) := (blk_cell BK50.out 2).trans rfl; have hcz28_3 : w21.cell? ⟨gb50, 3, none⟩ = some (.slice A1_3 l1_3.length c1_3) := (blk_cell BK50.out 3).trans rfl; have hcz28_4 : w21.cell? ⟨gb50, 4, none⟩ = some (.slice A1_4 l1_4.length c1_4) := (blk_cell BK50.out 4).trans rfl; have hfz28_0 := blk_frozen BK50.out 0; have hfz28_1 := blk_frozen BK50.out 1; have hfz28_2 := blk_frozen BK50.out 2; have hfz28_3 := blk_frozen BK50.out 3; have hfz28_4 := blk_frozen BK50.out 4; have hnb29 := NB51_52.out; have hnc29 := NB52_51.out; have hcz30_0 : w21.cell? ⟨gb51, 0, none⟩ = some (.int .i64 a2) := (blk_cell BK51.out 0).trans rfl; have hfz30_0 := blk_frozen BK51.out 0))
        go_ret
        exact ⟨by first | rfl | (simp [errW_none, errW_some] <;> rfl) | (simp [*, errW_none, errW_some] <;> rfl), by repeat (first | (with_reducible first | exact HB.out | apply below_alloc | apply pw_below_drewN | apply below_drew1 | refine below_set ?_ GE50.out | refine below_set ?_ GE51.out | refine below_set ?_ GE52.out | refine below_set ?_ GE101.out) | exact HB.out)⟩
      · rw [if_neg c20] at H
        have c20b0 : decide (a0_1 ≤ a2) = false := decide_eq_false c20
        clear c20
        obtain rfl := Option.some.inj H
        go_enter Try.func47, Try.ntmps47
        go_wp2_with (first | ((with_reducible refine gate_dst (N := 4) rfl ?_); (try (refine gate_guard (by rfl) ?_; dsimp only)); refine box_event ?hg (N := 4) ?hd (cs := #[.int .i64 a0_0, .int .i64 a0_1]) (t := 60) ?hr ?_; (case hd => rfl); (case hg => rfl); (case hr => first | (go_simp; done) | (go_simp; rfl)); intro gb101 hg w31 hbox hb; have n0_ := Aside0.mk (blk_below (g := gb50) (o := .cells #[.slice A1_0 l1_0.length c1_0, .slice A1_1 l1_1.length c1_1, .slice A1_2 l1_2.length c1_2, .slice A1_3 l1_3.length c1_3, .slice A1_4 l1_4.length c1_4] 49 (0, 0)) (by (with_reducible repeat (first | refine blk_drewN ?_ _ | refine blk_drew ?_ | refine blk_alloc ?_ _)); exact BK50.out) hb); have n1_ := Aside0.mk (blk_below (g := gb51) (o := .cells #[.int .i64 a2] 3 (0, 0)) (by (with_reducible repeat (first | refine blk_drewN ?_ _ | refine blk_drew ?_ | refine blk_alloc ?_ _)); exact BK51.out) hb); have n2_ := Aside0.mk (blk_below (g := gb52) (o := .cells #[.int .i64 a3] 3 (0, 0)) (by (with_reducible repeat (first | refine blk_drewN ?_ _ | refine blk_drew ?_ | refine blk_alloc ?_ _)); exact BK52.out) hb); have n3_ := Aside0.mk (below_step (by repeat (first | (with_reducible first | exact HB.out | apply below_alloc | apply pw_below_drewN | apply below_drew1 | refine below_set ?_ GE50.out | refine below_set ?_ GE51.out | refine below_set ?_ GE52.out) | exact HB.out)) hb); have n4_ := Aside0.mk (hbox); have n5_ := Aside0.mk ((by rw [hg]; exact (below_size (by repeat (first | (with_reducible first | exact HB.out | apply below_alloc | apply pw_below_drewN | apply below_drew1 | refine below_set ?_ GE50.out | refine below_set ?_ GE51.out | refine below_set ?_ GE52.out) | exact HB.out))) : w.heap.size ≤ gb101)); have n6_ := Aside0.mk ((by rw [hg]; exact (below_size (by repeat (first | (with_reducible first | exact HB.out | apply below_alloc | apply pw_below_drewN | apply below_drew1 | refine below_set ?_ GE50.out | refine below_set ?_ GE51.out | refine below_set ?_ GE52.out) | exact HB.out))) : w.heap.size ≤ gb101)); have n7_ := Aside0.mk ((by rw [hg]; exact Nat.ne_of_lt (blk_lt (g := gb50) (o := .cells #[.slice A1_0 l1_0.length c1_0, .slice A1_1 l1_1.length c1_1, .slice A1_2 l1_2.length c1_2, .slice A1_3 l1_3.length c1_3, .slice A1_4 l1_4.length c1_4] 49 (0, 0)) (by (with_reducible repeat (first | refine blk_drewN ?_ _ | refine blk_drew ?_ | refine blk_alloc ?_ _)); exact BK50.out)) : gb50 ≠ gb101)); have n8_ := Aside0.mk ((by rw [hg]; exact Nat.ne_of_gt (blk_lt (g := gb50) (o := .cells #[.slice A1_0 l1_0.length c1_0, .slice A1_1 l1_1.length c1_1, .slice A1_2 l1_2.length c1_2, .slice A1_3 l1_3.length c1_3, .slice A1_4 l1_4.length c1_4] 49 (0, 0)) (by (with_reducible repeat (first | refine blk_drewN ?_ _ | refine blk_drew ?_ | refine blk_alloc ?_ _)); exact BK50.out)) : gb101 ≠ gb50)); have n9_ := Aside0.mk ((by rw [hg]; exact Nat.ne_of_lt (blk_lt (g := gb51) (o := .cells #[.int .i64 a2] 3 (0, 0)) (by (with_reducible repeat (first | refine blk_drewN ?_ _ | refine blk_drew ?_ | refine blk_alloc ?_ _)); exact BK51.out)) : gb51 ≠ gb101)); have n10_ := Aside0.mk ((by rw [hg]; exact Nat.ne_of_gt (blk_lt (g := gb51) (o := .cells #[.int .i64 a2] 3 (0, 0)) (by (with_reducible repeat (first | refine blk_drewN ?_ _ | refine blk_drew ?_ | refine blk_alloc ?_ _)); exact BK51.out)) : gb101 ≠ gb51)); have n11_ := Aside0.mk ((by rw [hg]; exact Nat.ne_of_lt (blk_lt (g := gb52) (o := .cells #[.int .i64 a3] 3 (0, 0)) (by (with_reducible repeat (first | refine blk_drewN ?_ _ | refine blk_drew ?_ | refine blk_alloc ?_ _)); exact BK52.out)) : gb52 ≠ gb101)); have n12_ := Aside0.mk ((by rw [hg]; exact Nat.ne_of_gt (blk_lt (g := gb52) (o := .cells #[.int .i64 a3] 3 (0, 0)) (by (with_reducible repeat (first | refine blk_drewN ?_ _ | refine blk_drew ?_ | refine blk_alloc ?_ _)); exact BK52.out)) : gb101 ≠ gb52)); clear BK50; clear BK51; clear BK52; clear HB; have BK50 := n0_; have BK51 := n1_; have BK52 := n2_; have HB := n3_; have BK101 := n4_; have GW101 := n5_; have GE101 := n6_; have NB50_101 := n7_; have NB101_50 := n8_; have NB51_101 := n9_; have NB101_51 := n10_; have NB52_101 := n11_; have NB101_52 := n12_; clear n0_ n1_ n2_ n3_ n4_ n5_ n6_ n7_ n8_ n9_ n10_ n11_ n12_; clear hb hbox hg; have hnb32 := NB101_50.out; have hnc32 := NB50_101.out; have hnb33 := NB101_51.out; have hnc33 := NB51_101.out; have hnb34 := NB101_52.out; have hnc34 := NB52_101.out; have hcz35_0 : w31.cell? ⟨gb101, 0, none⟩ = some (.int .i64 a0_0) := (blk_cell BK101.out 0).trans rfl; have hcz35_1 : w31.cell? ⟨gb101, 1, none⟩ = some (.int .i64 a0_1) := (blk_cell BK101.out 1).trans rfl; have hfz35_0 := blk_frozen BK101.out 0; have hfz35_1 := blk_frozen BK101.out 1; have hnb36 := NB50_51.out; have hnc36 := NB51_50.out; have hnb37 := NB50_52.out; have hnc37 := NB52_50.out; have hcz38_0 : w31.cell? ⟨gb50, 0, none⟩ = some (.slice A1_0 l1_0.length c1_0) := (blk_cell BK50.out 0).trans rfl; have hcz38_1 : w31.cell? ⟨gb50, 1, none⟩ = some (.slice A1_1 l1_1.length c1_1) := (blk_cell BK50.out 1).trans rfl; have hcz38_2 : w31.cell? ⟨gb50, 2, none⟩ = some (.slice A1_2 l1_2.length c1_2) := (blk_cell BK50.out 2).trans rfl; have hcz38_3 : w31.cell? ⟨gb50, 3, none⟩ = some (.slice A1_3 l1_3.length c1_3) := (blk_cell BK50.out 3).trans rfl; have hcz38_4 : w31.cell? ⟨gb50, 4, none⟩ = some (.slice A1_4 l1_4.length c1_4) := (blk_cell BK50.out 4).trans rfl; have hfz38_0 := blk_frozen BK50.out 0; have hfz38_1 := blk_frozen BK50.out 1; have hfz38_2 := blk_frozen BK50.out 2; have hfz38_3 := blk_frozen BK50.out 3; have hfz38_4 := blk_frozen BK50.out 4; have hnb39 := NB51_52.out; have hnc39 := NB52_51.out; have hcz40_0 : w31.cell? ⟨gb51, 0, none⟩ = some (.int .i64 a2) := (blk_cell BK51.out 0).trans rfl; have hfz40_0 := blk_frozen BK51.out 0; have hcz41_0 : w31.cell? ⟨gb52, 0, none⟩ = some (.int .i64 a3) := (blk_cell BK52.out 0).trans rfl; have hfz41_0 := blk_frozen BK52.out 0))
        go_ret
        exact ⟨by first | rfl | (simp [errW_none, errW_some] <;> rfl) | (simp [*, errW_none, errW_some] <;> rfl), by repeat (first | (with_reducible first | exact HB.out | apply below_alloc | apply pw_below_drewN | apply below_drew1 | refine below_set ?_ GE50.out | refine below_set ?_ GE51.out | refine below_set ?_ GE52.out | refine below_set ?_ GE101.out) | exact HB.out)⟩

-- NOT PRINTED: function 63 (slices_IndexFunc_int_int_63)

-- NOT PRINTED: function 48 (slices_ContainsFunc_int_int_48)

-- NOT PRINTED: function 71 (slices_Grow_int_int)

-- NOT PRINTED: function 64 (slices_Concat_int_int)

-- NOT PRINTED: function 49 (rules_context)

/-! ### sets_Right: function 65 -/
def sets_Right.l0 : Nat → List Int → Int → Option (Bool)
  | 0, _, _ => none
  | k + 1, x0, x3 => if x3 < (x0.length : Int) then (if 0 ≤ (wrap64 (x3 - 1)) then (if (wrap64 (x3 - 1)) < (x0.length : Int) then (if 0 ≤ x3 then (if (rd x0 (wrap64 (x3 - 1))) ≥ (rd x0 x3) then (some false) else (sets_Right.l0 k x0 (wrap64 (x3 + 1)))) else (none)) else (none)) else (none)) else (some true)
def sets_Right.f (k : Nat) (l0 : List Int) : Option (Bool) := sets_Right.l0 k l0 1
theorem sets_Right.mono_l : ∀ k, (∀ y0 y1, LeO (sets_Right.l0 k y0 y1) (sets_Right.l0 (k + 1) y0 y1))
  | 0 => fun _ _ r h => by simp [sets_Right.l0] at h
  | k + 1 => by
    have ih0 := sets_Right.mono_l k
    · intro y0 y1
      unfold sets_Right.l0
      repeat' first
      | (with_reducible exact ih0 _ _)
      | (with_reducible exact LeO.refl _)
      | (with_reducible exact LeO.none _)
      | (with_reducible refine LeO.ite ?_ ?_)
      | (with_reducible refine LeO.bind ?_ (fun _ => ?_))
      | exact ih0 _ _
      | exact LeO.none _
      | refine LeO.ite ?_ ?_
      | refine LeO.bind ?_ (fun _ => ?_)
theorem sets_Right.mono : ∀ a0 k, LeO (sets_Right.f k a0) (sets_Right.f (k + 1) a0) := by
  intro a0 k
  have ih0 := sets_Right.mono_l k
  unfold sets_Right.f
  repeat' first
      | (with_reducible exact ih0 _ _)
      | (with_reducible exact LeO.refl _)
      | (with_reducible exact LeO.none _)
      | (with_reducible refine LeO.ite ?_ ?_)
      | (with_reducible refine LeO.bind ?_ (fun _ => ?_))
      | exact ih0 _ _
      | exact LeO.none _
      | refine LeO.ite ?_ ?_
      | refine LeO.bind ?_ (fun _ => ?_)
set_option maxHeartbeats 8000000 in
set_option maxRecDepth 100000 in
theorem sets_Right.calls (k : Nat) (A0 : Option Addr) (c0 : Nat) (l0 : List Int) (r : Bool) (w : World) (hr0 : Kd.C (Kd.int .i64) w A0 l0.length l0) (hc0 : l0.length ≤ c0) (h : sets_Right.f k l0 = some r) :
    Calls Try.prog 65 #[.slice A0 l0.length c0] w fun e w' => e = .returned (.bool r) ∧ Drawn0 w w' := by
  have HR0 := Aside0.mk hr0
  have HC0 := Aside0.mk hc0
  clear hr0 hc0
  have H : (sets_Right.l0 k l0 1) = some r := h
  clear h
  have H' := Aside0.mk H
  clear H
  go_enter Try.func65, Try.ntmps65
  go_wp2
  repeat (go_quiet (fail); try go_wp2)
  go_loopg [3] k (fun kq v3 w' => ∃ (x3_1 : Int), v3 = .int .i64 x3_1 ∧ Aside0 (sets_Right.l0 kq l0 x3_1 = some r) ∧ Aside0 (kq ≤ k) ∧ Drawn0 w w')
  case atStart => exact ⟨(1), (by first | rfl | (simp; done) | (simp [*]; done)), H', ⟨Nat.le_refl _⟩, by repeat (first | exact Drawn0.refl _ | apply Drawn0.step)⟩
  case round =>
    clear H'
    obtain ⟨x3_1, rfl, HA, HK1, ⟨m1, rfl⟩⟩ := hrel
    cases gk with
    | zero => exact absurd HA.out (by simp [sets_Right.l0])
    | succ k1 =>
      have H := HA.out
      clear HA
      simp only [sets_Right.l0] at H
      by_cases c2 : x3_1 < (l0.length : Int)
      · rw [if_pos c2] at H
        have c2b0 : decide (x3_1 < (l0.length : Int)) = true := decide_eq_true c2
        clear c2
        obtain ⟨ji3, hji3⟩ : ∃ j_ : Int, (wrap64 (x3_1 - 1)) = j_ := ⟨_, rfl⟩
        replace H : (if 0 ≤ (ji3) then (if (ji3) < (l0.length : Int) then (if 0 ≤ x3_1 then (if (rd l0 (ji3)) ≥ (rd l0 x3_1) then (some false) else (sets_Right.l0 k1 l0 (wrap64 (x3_1 + 1)))) else (none)) else (none)) else (none)) = some r := by first | (rw [hji3] at H; exact H) | (simp only [hji3] at H ⊢; exact H)
        have hji3w : (IntKind.i64.wrap (x3_1 - 1)) = ji3 := (i64_w _).trans hji3
        by_cases c4 : 0 ≤ (ji3)
        · rw [if_pos c4] at H
          have c4b0 : decide (0 ≤ (ji3)) = true := decide_eq_true c4
          clear c4
          by_cases c5 : (ji3) < (l0.length : Int)
          · rw [if_pos c5] at H
            have c5b0 : decide ((ji3) < (l0.length : Int)) = true := decide_eq_true c5
            clear c5
            by_cases c6 : 0 ≤ x3_1
            · rw [if_pos c6] at H
              have c6b0 : decide (0 ≤ x3_1) = true := decide_eq_true c6
              clear c6
              by_cases c7 : (rd l0 (ji3)) ≥ (rd l0 x3_1)
              · rw [if_pos c7] at H
                have c7b0 : decide ((rd l0 x3_1) ≤ (rd l0 (ji3))) = true := decide_eq_true c7
                clear c7
                obtain rfl := Option.some.inj H
                have p107 : 0 ≤ ((ji3) : Int) := of_decide_eq_true (by first | (with_reducible assumption) | assumption)
                have q107 : (ji3) < (l0.length : Int) := of_decide_eq_true (by first | (with_reducible assumption) | assumption)
                obtain ⟨ad107, e107, hx107_0⟩ := Kd.at_int HR0.out (ji3) p107 q107
                cases e107
                replace p107 := eq_true p107
                replace q107 := eq_true q107
                have p108 : 0 ≤ (x3_1 : Int) := of_decide_eq_true (by first | (with_reducible assumption) | assumption)
                have q108 : x3_1 < (l0.length : Int) := of_decide_eq_true (by first | (with_reducible assumption) | assumption)
                obtain ⟨ad108, e108, hx108_0⟩ := Kd.at_int HR0.out x3_1 p108 q108
                obtain rfl : ad107 = ad108 := (by injection e108)
                replace p108 := eq_true p108
                replace q108 := eq_true q108
                go_wp2
                repeat (go_quiet (fail); try go_wp2)
                go_ret
                exact ⟨by first | rfl | (simp; done) | (simp only [← hji3] <;> (first | rfl | simp)) | (simp [*]; done), by repeat (first | exact Drawn0.refl _ | apply Drawn0.step)⟩
              · rw [if_neg c7] at H
                have c7b0 : decide ((rd l0 x3_1) ≤ (rd l0 (ji3))) = false := decide_eq_false c7
                clear c7
                have H' := Aside0.mk H
                clear H
                have p107 : 0 ≤ ((ji3) : Int) := of_decide_eq_true (by first | (with_reducible assumption) | assumption)
                have q107 : (ji3) < (l0.length : Int) := of_decide_eq_true (by first | (with_reducible assumption) | assumption)
                obtain ⟨ad107, e107, hx107_0⟩ := Kd.at_int HR0.out (ji3) p107 q107
                cases e107
                replace p107 := eq_true p107
                replace q107 := eq_true q107
                have p108 : 0 ≤ (x3_1 : Int) := of_decide_eq_true (by first | (with_reducible assumption) | assumption)
                have q108 : x3_1 < (l0.length : Int) := of_decide_eq_true (by first | (with_reducible assumption) | assumption)
                obtain ⟨ad108, e108, hx108_0⟩ := Kd.at_int HR0.out x3_1 p108 q108
                obtain rfl : ad107 = ad108 := (by injection e108)
                replace p108 := eq_true p108
                replace q108 := eq_true q108
                go_wp2
                repeat (go_quiet (fail); try go_wp2)
                go_roundg k1
                case measure => have := HK1.out; omega
                case rel => exact ⟨(wrap64 (x3_1 + 1)), (by first | rfl | (simp; done) | (simp [*]; done)), H', ⟨by have := HK1.out; omega⟩, by repeat (first | exact Drawn0.refl _ | apply Drawn0.step)⟩
            · rw [if_neg c6] at H
              exact absurd H (by simp)
          · rw [if_neg c5] at H
            exact absurd H (by simp)
        · rw [if_neg c4] at H
          exact absurd H (by simp)
      · rw [if_neg c2] at H
        have c2b0 : decide (x3_1 < (l0.length : Int)) = false := decide_eq_false c2
        clear c2
        obtain rfl := Option.some.inj H
        go_wp2
        repeat (go_quiet (fail); try go_wp2)
        go_ret
        exact ⟨by first | rfl | (simp; done) | (simp [*]; done), by repeat (first | exact Drawn0.refl _ | apply Drawn0.step)⟩

/-! ### rules_wrongSet: function 50 -/
def rules_wrongSet.f (k : Nat) (l0 : List Int) : Option (Bool) := if (l0.length : Int) = 0 then (some true) else ((sets_Right.f k l0).bind fun t109 => (some (!t109)))
theorem rules_wrongSet.mono : ∀ a0 k, LeO (rules_wrongSet.f k a0) (rules_wrongSet.f (k + 1) a0) := by
  intro a0 k
  unfold rules_wrongSet.f
  repeat' first
      | (with_reducible exact sets_Right.mono _ _)
      | (with_reducible exact LeO.refl _)
      | (with_reducible exact LeO.none _)
      | (with_reducible refine LeO.ite ?_ ?_)
      | (with_reducible refine LeO.bind ?_ (fun _ => ?_))
      | exact sets_Right.mono _ _
      | exact LeO.none _
      | refine LeO.ite ?_ ?_
      | refine LeO.bind ?_ (fun _ => ?_)
set_option maxHeartbeats 8000000 in
set_option maxRecDepth 100000 in
theorem rules_wrongSet.calls (k : Nat) (A0 : Option Addr) (c0 : Nat) (l0 : List Int) (r : Bool) (w : World) (hr0 : Kd.C (Kd.int .i64) w A0 l0.length l0) (hc0 : l0.length ≤ c0) (h : rules_wrongSet.f k l0 = some r) :
    Calls Try.prog 50 #[.slice A0 l0.length c0] w fun e w' => e = .returned (.bool r) ∧ Drawn0 w w' := by
  have HR0 := Aside0.mk hr0
  have HC0 := Aside0.mk hc0
  clear hr0 hc0
  have H : (if (l0.length : Int) = 0 then (some true) else ((sets_Right.f k l0).bind fun t109 => (some (!t109)))) = some r := h
  clear h
  by_cases c2 : (l0.length : Int) = 0
  · rw [if_pos c2] at H
    have c2b0 : ((l0.length : Int) == 0) = true := beq_iff_eq.mpr c2
    have c2b1 : ((l0.length : Int) != 0) = false := bne_eq_false_iff_eq.mpr c2
    clear c2
    obtain rfl := Option.some.inj H
    go_enter Try.func50, Try.ntmps50
    go_wp2
    go_ret
    exact ⟨by first | rfl | (simp; done) | (simp [*]; done), by repeat (first | exact Drawn0.refl _ | apply Drawn0.step)⟩
  · rw [if_neg c2] at H
    have c2b0 : ((l0.length : Int) == 0) = false := beq_eq_false_iff_ne.mpr c2
    have c2b1 : ((l0.length : Int) != 0) = true := bne_iff_ne.mpr c2
    have c2b2 : ¬ (l0 = []) := fun h_ => c2 (by rw [h_]; rfl)
    replace H := Option.bind_eq_some_iff.mp H
    obtain ⟨t109, A30, H⟩ := H
    replace H : (some (!t109)) = some r := H
    have A3 := Aside0.mk A30
    clear A30
    obtain rfl := Option.some.inj H
    go_enter Try.func50, Try.ntmps50
    go_wp2_with (first | (go_at_call 65; (with_reducible refine (sets_Right.calls k _ _ l0 t109 _ ?side1 ?side2 A3.out).mono ?_); (case side1 => repeat (first | exact HR0.out | (with_reducible refine Kd.C_alloc ?_ _) | (with_reducible refine Kd.C_drewN ?_ _) | (with_reducible refine Kd.C_drew ?_))); (case side2 => exact HC0.out); rintro e w' ⟨rfl, ⟨nd, rfl⟩⟩))
    go_ret
    exact ⟨by first | rfl | (simp; done) | (simp [*]; done), by repeat (first | exact Drawn0.refl _ | apply Drawn0.step)⟩

-- NOT PRINTED: function 66 (api_Call_66)

-- NOT PRINTED: function 51 (api_Call_51)

-- NOT PRINTED: function 34 (rules_checkRule)

end Go.Proofs.Ytlgkeaildncojaa.Q

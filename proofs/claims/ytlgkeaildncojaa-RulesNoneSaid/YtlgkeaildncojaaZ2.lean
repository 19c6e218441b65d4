/- Texts of this claim, merged by wip/tools/pack.py: Qx2, Ck, Chk, N1, N2. -/
import Derived.Test.YtlgkeaildncojaaZ1
import Derived.Ground.NamesProg
import Derived.Shelf.Sort.Plain
import Derived.Shelf.Slices.In.SortNone
import Derived.Maps.RangeWalk
import Derived.Maps.OwnSet
import Derived.Sort.OwnSortedInts
import Derived.MapKept
section
-- Written by wip/tools/myprint.py, a program of this session that drives the kit's print.py; not a text of print.sh.
namespace Go.Proofs.Ytlgkeaildncojaa.Q
open Go.RowKit Go.Proofs.YtlgkeaildncojaaW.PrintWords Go.Proofs.YtlgkeaildncojaaW.PrintLast Go.Proofs.YtlgkeaildncojaaW.PrintMore
attribute [local go_sem] max2_int min2_int max_two min_two max_three min_three max_four min_four   -- for this text's walks alone
set_option linter.unusedVariables false
set_option linter.unusedSimpArgs false

-- NOT PRINTED: function 62 (slices_IndexFunc_int_int_62)

-- NOT PRINTED: function 45 (slices_ContainsFunc_int_int_45)

/-! ### rules_checkRule_1_1: function 46 -/
def rules_checkRule_1_1.f (a0 : Int) (a1 : Int) : Option (Bool) := if a0 < 0 then (some true) else (some (decide (a0 ≥ a1)))
set_option maxHeartbeats 8000000 in
set_option maxRecDepth 100000 in
theorem rules_checkRule_1_1.calls {gb50 : Nat} (a0 : Int) (a1 : Int) (r : Bool) (w : World) (hb50 : w.heap[gb50]? = some (.cells #[.int .i64 a1] 3 (0, 0))) (h : rules_checkRule_1_1.f a0 a1 = some r) :
    Calls Try.prog 46 #[.int .i64 a0, .pointer (some ⟨gb50, 0, none⟩)] w fun e w' => e = .returned (.bool r) ∧ Below w.heap.size w w' := by
  have BK50 := Aside0.mk hb50
  clear hb50
  have HB := Aside0.mk (Below.refl w.heap.size w)
  have H : (if a0 < 0 then (some true) else (some (decide (a0 ≥ a1)))) = some r := h
  clear h
  by_cases c3 : a0 < 0
  · rw [if_pos c3] at H
    have c3b0 : decide (a0 < 0) = true := decide_eq_true c3
    clear c3
    obtain rfl := Option.some.inj H
    go_enter Try.func46, Try.ntmps46
    go_wp2
    go_ret
    exact ⟨by first | rfl | (simp [errW_none, errW_some] <;> rfl) | (simp [*, errW_none, errW_some] <;> rfl), by repeat (first | (with_reducible first | exact HB.out | apply below_alloc | apply pw_below_drewN | apply below_drew1 | refine below_set ?_ GE50.out) | exact HB.out)⟩
  · rw [if_neg c3] at H
    have c3b0 : decide (a0 < 0) = false := decide_eq_false c3
    clear c3
    obtain rfl := Option.some.inj H
    have hcz4_0 : w.cell? ⟨gb50, 0, none⟩ = some (.int .i64 a1) := (blk_cell BK50.out 0).trans rfl
    have hfz4_0 := blk_frozen BK50.out 0
    go_enter Try.func46, Try.ntmps46
    go_wp2
    go_ret
    exact ⟨by first | rfl | (simp [errW_none, errW_some] <;> rfl) | (simp [*, errW_none, errW_some] <;> rfl), by repeat (first | (with_reducible first | exact HB.out | apply below_alloc | apply pw_below_drewN | apply below_drew1 | refine below_set ?_ GE50.out) | exact HB.out)⟩

-- NOT PRINTED: function 44 (rules_checkRule_1)

/-! ### rules_checkRule_2: function 47 -/
def rules_checkRule_2.f (a0_0 : Int) (a0_1 : Int) (l1_0 : List (List Int)) (l1_1 : List (List Int)) (l1_2 : List (List Int)) (l1_3 : List Int) (l1_4 : List (S60)) (a2 : Int) (a3 : Int) : Option (Bool) := if a0_0 < 0 then (some true) else (if a0_0 ≥ (l1_1.length : Int) then (some true) else (if a0_1 ≤ a2 then (some true) else (some (decide (a0_1 ≥ a3)))))
set_option maxHeartbeats 8000000 in
set_option maxRecDepth 100000 in
theorem rules_checkRule_2.calls {gb50 : Nat} {gb51 : Nat} {gb52 : Nat} (a0_0 : Int) (a0_1 : Int) (A1_0 : Option Addr) (c1_0 : Nat) (l1_0 : List (List Int)) (A1_1 : Option Addr) (c1_1 : Nat) (l1_1 : List (List Int)) (A1_2 : Option Addr) (c1_2 : Nat) (l1_2 : List (List Int)) (A1_3 : Option Addr) (c1_3 : Nat) (l1_3 : List Int) (A1_4 : Option Addr) (c1_4 : Nat) (l1_4 : List (S60)) (a2 : Int) (a3 : Int) (r : Bool) (w : World) (hr1_0 : Kd.C (Kd.slice 3 (Kd.int .i64)) w A1_0 l1_0.length l1_0) (hc1_0 : l1_0.length ≤ c1_0) (hr1_1 : Kd.C (Kd.slice 3 (Kd.int .i64)) w A1_1 l1_1.length l1_1) (hc1_1 : l1_1.length ≤ c1_1) (hr1_2 : Kd.C (Kd.slice 3 (Kd.int .i64)) w A1_2 l1_2.length l1_2) (hc1_2 : l1_2.length ≤ c1_2) (hr1_3 : Kd.C (Kd.int .i64) w A1_3 l1_3.length l1_3) (hc1_3 : l1_3.length ≤ c1_3) (hr1_4 : Kd.C k60 w A1_4 l1_4.length l1_4) (hc1_4 : l1_4.length ≤ c1_4) (hb50 : w.heap[gb50]? = some (.cells #[.slice A1_0 l1_0.length c1_0, .slice A1_1 l1_1.length c1_1, .slice A1_2 l1_2.length c1_2, .slice A1_3 l1_3.length c1_3, .slice A1_4 l1_4.length c1_4] 49 (0, 0))) (hb51 : w.heap[gb51]? = some (.cells #[.int .i64 a2] 3 (0, 0))) (hb52 : w.heap[gb52]? = some (.cells #[.int .i64 a3] 3 (0, 0))) (hn50_51 : gb50 ≠ gb51) (hn50_52 : gb50 ≠ gb52) (hn51_52 : gb51 ≠ gb52) (h : rules_checkRule_2.f a0_0 a0_1 l1_0 l1_1 l1_2 l1_3 l1_4 a2 a3 = some r) :
    Calls Try.prog 47 #[.agg #[.int .i64 a0_0, .int .i64 a0_1], .pointer (some ⟨gb50, 0, none⟩), .pointer (some ⟨gb51, 0, none⟩), .pointer (some ⟨gb52, 0, none⟩)] w fun e w' => e = .returned (.bool r) ∧ Below w.heap.size w w' := by
  have hu60 := Try.underlying60
  have HR1_0 := Aside0.mk hr1_0
  have HC1_0 := Aside0.mk hc1_0
  clear hr1_0 hc1_0
  have HR1_1 := Aside0.mk hr1_1
  have HC1_1 := Aside0.mk hc1_1
  clear hr1_1 hc1_1
  have HR1_2 := Aside0.mk hr1_2
  have HC1_2 := Aside0.mk hc1_2
  clear hr1_2 hc1_2
  have HR1_3 := Aside0.mk hr1_3
  have HC1_3 := Aside0.mk hc1_3
  clear hr1_3 hc1_3
  have HR1_4 := Aside0.mk hr1_4
  have HC1_4 := Aside0.mk hc1_4
  clear hr1_4 hc1_4
  have BK50 := Aside0.mk hb50
  clear hb50
  have BK51 := Aside0.mk hb51
  clear hb51
  have BK52 := Aside0.mk hb52
  clear hb52
  have NB50_51 := Aside0.mk hn50_51
  have NB51_50 := Aside0.mk (Ne.symm hn50_51)
  clear hn50_51
  have NB50_52 := Aside0.mk hn50_52
  have NB52_50 := Aside0.mk (Ne.symm hn50_52)
  clear hn50_52
  have NB51_52 := Aside0.mk hn51_52
  have NB52_51 := Aside0.mk (Ne.symm hn51_52)
  clear hn51_52
  have HB := Aside0.mk (Below.refl w.heap.size w)
  have H : (if a0_0 < 0 then (some true) else (if a0_0 ≥ (l1_1.length : Int) then (some true) else (if a0_1 ≤ a2 then (some true) else (some (decide (a0_1 ≥ a3)))))) = some r := h
  clear h
  by_cases c5 : a0_0 < 0
  · rw [if_pos c5] at H
    have c5b0 : decide (a0_0 < 0) = true := decide_eq_true c5
    clear c5
    obtain rfl := Option.some.inj H
    go_enter Try.func47, Try.ntmps47
    go_wp2_with (first | ((with_reducible refine gate_dst (N := 4) rfl ?_); (try (refine gate_guard (by rfl) ?_; dsimp only)); refine box_event ?hg (N := 4) ?hd (cs := #[.int .i64 a0_0, .int .i64 a0_1]) (t := 60) ?hr ?_; (case hd => rfl); (case hg => rfl); (case hr => first | (go_simp; done) | (go_simp; rfl)); intro gb101 hg w6 hbox hb; have n0_ := Aside0.mk (blk_below (g := gb50) (o := .cells #[.slice A1_0 l1_0.length c1_0, .slice A1_1 l1_1.length c1_1, .slice A1_2 l1_2.length c1_2, .slice A1_3 l1_3.length c1_3, .slice A1_4 l1_4.length c1_4] 49 (0, 0)) (by (with_reducible repeat (first | refine blk_drewN ?_ _ | refine blk_drew ?_ | refine blk_alloc ?_ _)); exact BK50.out) hb); have n1_ := Aside0.mk (blk_below (g := gb51) (o := .cells #[.int .i64 a2] 3 (0, 0)) (by (with_reducible repeat (first | refine blk_drewN ?_ _ | refine blk_drew ?_ | refine blk_alloc ?_ _)); exact BK51.out) hb); have n2_ := Aside0.mk (blk_below (g := gb52) (o := .cells #[.int .i64 a3] 3 (0, 0)) (by (with_reducible repeat (first | refine blk_drewN ?_ _ | refine blk_drew ?_ | refine blk_alloc ?_ _)); exact BK52.out) hb); have n3_ := Aside0.mk (below_step (by repeat (first | (with_reducible first | exact HB.out | apply below_alloc | apply pw_below_drewN | apply below_drew1 | refine below_set ?_ GE50.out | refine below_set ?_ GE51.out | refine below_set ?_ GE52.out) | exact HB.out)) hb); have n4_ := Aside0.mk (hbox); have n5_ := Aside0.mk ((by rw [hg]; exact (below_size (by repeat (first | (with_reducible first | exact HB.out | apply below_alloc | apply pw_below_drewN | apply below_drew1 | refine below_set ?_ GE50.out | refine below_set ?_ GE51.out | refine below_set ?_ GE52.out) | exact HB.out))) : w.heap.size ≤ gb101)); have n6_ := Aside0.mk ((by rw [hg]; exact (below_size (by repeat (first | (with_reducible first | exact HB.out | apply below_alloc | apply pw_below_drewN | apply below_drew1 | refine below_set ?_ GE50.out | refine below_set ?_ GE51.out | refine below_set ?_ GE52.out) | exact HB.out))) : w.heap.size ≤ gb101)); have n7_ := Aside0.mk ((by rw [hg]; exact Nat.ne_of_lt (blk_lt (g := gb50) (o := .cells #[.slice A1_0 l1_0.length c1_0, .slice A1_1 l1_1.length c1_1, .slice A1_2 l1_2.length c1_2, .slice A1_3 l1_3.length c1_3, .slice A1_4 l1_4.length c1_4] 49 (0, 0)) (by (with_reducible repeat (first | refine blk_drewN ?_ _ | refine blk_drew ?_ | refine blk_alloc ?_ _)); exact BK50.out)) : gb50 ≠ gb101)); have n8_ := Aside0.mk ((by rw [hg]; exact Nat.ne_of_gt (blk_lt (g := gb50) (o := .cells #[.slice A1_0 l1_0.length c1_0, .slice A1_1 l1_1.length c1_1, .slice A1_2 l1_2.length c1_2, .slice A1_3 l1_3.length c1_3, .slice A1_4 l1_4.length c1_4] 49 (0, 0)) (by (with_reducible repeat (first | refine blk_drewN ?_ _ | refine blk_drew ?_ | refine blk_alloc ?_ _)); exact BK50.out)) : gb101 ≠ gb50)); have n9_ := Aside0.mk ((by rw [hg]; exact Nat.ne_of_lt (blk_lt (g := gb51) (o := .cells #[.int .i64 a2] 3 (0, 0)) (by (with_reducible repeat (first | refine blk_drewN ?_ _ | refine blk_drew ?_ | refine blk_alloc ?_ _)); exact BK51.out)) : gb51 ≠ gb101)); have n10_ := Aside0.mk ((by rw [hg]; exact Nat.ne_of_gt (blk_lt (g := gb51) (o := .cells #[.int .i64 a2] 3 (0, 0)) (by (with_reducible repeat (first | refine blk_drewN ?_ _ | refine blk_drew ?_ | refine blk_alloc ?_ _)); exact BK51.out)) : gb101 ≠ gb51)); have n11_ := Aside0.mk ((by rw [hg]; exact Nat.ne_of_lt (blk_lt (g := gb52) (o := .cells #[.int .i64 a3] 3 (0, 0)) (by (with_reducible repeat (first | refine blk_drewN ?_ _ | refine blk_drew ?_ | refine blk_alloc ?_ _)); exact BK52.out)) : gb52 ≠ gb101)); have n12_ := Aside0.mk ((by rw [hg]; exact Nat.ne_of_gt (blk_lt (g := gb52) (o := .cells #[.int .i64 a3] 3 (0, 0)) (by (with_reducible repeat (first | refine blk_drewN ?_ _ | refine blk_drew ?_ | refine blk_alloc ?_ _)); exact BK52.out)) : gb101 ≠ gb52)); clear BK50; clear BK51; clear BK52; clear HB; have BK50 := n0_; have BK51 := n1_; have BK52 := n2_; have HB := n3_; have BK101 := n4_; have GW101 := n5_; have GE101 := n6_; have NB50_101 := n7_; have NB101_50 := n8_; have NB51_101 := n9_; have NB101_51 := n10_; have NB52_101 := n11_; have NB101_52 := n12_; clear n0_ n1_ n2_ n3_ n4_ n5_ n6_ n7_ n8_ n9_ n10_ n11_ n12_; clear hb hbox hg; have hnb7 := NB101_50.out; have hnc7 := NB50_101.out; have hnb8 := NB101_51.out; have hnc8 := NB51_101.out; have hnb9 := NB101_52.out; have hnc9 := NB52_101.out; have hcz10_0 : w6.cell? ⟨gb101, 0, none⟩ = some (.int .i64 a0_0) := (blk_cell BK101.out 0).trans rfl; have hcz10_1 : w6.cell? ⟨gb101, 1, none⟩ = some (.int .i64 a0_1) := (blk_cell BK101.out 1).trans rfl; have hfz10_0 := blk_frozen BK101.out 0; have hfz10_1 := blk_frozen BK101.out 1))
    go_ret
    exact ⟨by first | rfl | (simp [errW_none, errW_some] <;> rfl) | (simp [*, errW_none, errW_some] <;> rfl), by repeat (first | (with_reducible first | exact HB.out | apply below_alloc | apply pw_below_drewN | apply below_drew1 | refine below_set ?_ GE50.out | refine below_set ?_ GE51.out | refine below_set ?_ GE52.out | refine below_set ?_ GE101.out) | exact HB.out)⟩
  · rw [if_neg c5] at H
    have c5b0 : decide (a0_0 < 0) = false := decide_eq_false c5
    clear c5
    by_cases c11 : a0_0 ≥ (l1_1.length : Int)
    · rw [if_pos c11] at H
      have c11b0 : decide ((l1_1.length : Int) ≤ a0_0) = true := decide_eq_true c11
      clear c11
      obtain rfl := Option.some.inj H
      go_enter Try.func47, Try.ntmps47
      go_wp2_with (first | ((with_reducible refine gate_dst (N := 4) rfl ?_); (try (refine gate_guard (by rfl) ?_; dsimp only)); refine box_event ?hg (N := 4) ?hd (cs := #[.int .i64 a0_0, .int .i64 a0_1]) (t := 60) ?hr ?_; (case hd => rfl); (case hg => rfl); (case hr => first | (go_simp; done) | (go_simp; rfl)); intro gb101 hg w12 hbox hb; have n0_ := Aside0.mk (blk_below (g := gb50) (o := .cells #[.slice A1_0 l1_0.length c1_0, .slice A1_1 l1_1.length c1_1, .slice A1_2 l1_2.length c1_2, .slice A1_3 l1_3.length c1_3, .slice A1_4 l1_4.length c1_4] 49 (0, 0)) (by (with_reducible repeat (first | refine blk_drewN ?_ _ | refine blk_drew ?_ | refine blk_alloc ?_ _)); exact BK50.out) hb); have n1_ := Aside0.mk (blk_below (g := gb51) (o := .cells #[.int .i64 a2] 3 (0, 0)) (by (with_reducible repeat (first | refine blk_drewN ?_ _ | refine blk_drew ?_ | refine blk_alloc ?_ _)); exact BK51.out) hb); have n2_ := Aside0.mk (blk_below (g := gb52) (o := .cells #[.int .i64 a3] 3 (0, 0)) (by (with_reducible repeat (first | refine blk_drewN ?_ _ | refine blk_drew ?_ | refine blk_alloc ?_ _)); exact BK52.out) hb); have n3_ := Aside0.mk (below_step (by repeat (first | (with_reducible first | exact HB.out | apply below_alloc | apply pw_below_drewN | apply below_drew1 | refine below_set ?_ GE50.out | refine below_set ?_ GE51.out | refine below_set ?_ GE52.out) | exact HB.out)) hb); have n4_ := Aside0.mk (hbox); have n5_ := Aside0.mk ((by rw [hg]; exact (below_size (by repeat (first | (with_reducible first | exact HB.out | apply below_alloc | apply pw_below_drewN | apply below_drew1 | refine below_set ?_ GE50.out | refine below_set ?_ GE51.out | refine below_set ?_ GE52.out) | exact HB.out))) : w.heap.size ≤ gb101)); have n6_ := Aside0.mk ((by rw [hg]; exact (below_size (by repeat (first | (with_reducible first | exact HB.out | apply below_alloc | apply pw_below_drewN | apply below_drew1 | refine below_set ?_ GE50.out | refine below_set ?_ GE51.out | refine below_set ?_ GE52.out) | exact HB.out))) : w.heap.size ≤ gb101)); have n7_ := Aside0.mk ((by rw [hg]; exact Nat.ne_of_lt (blk_lt (g := gb50) (o := .cells #[.slice A1_0 l1_0.length c1_0, .slice A1_1 l1_1.length c1_1, .slice A1_2 l1_2.length c1_2, .slice A1_3 l1_3.length c1_3, .slice A1_4 l1_4.length c1_4] 49 (0, 0)) (by (with_reducible repeat (first | refine blk_drewN ?_ _ | refine blk_drew ?_ | refine blk_alloc ?_ _)); exact BK50.out)) : gb50 ≠ gb101)); have n8_ := Aside0.mk ((by rw [hg]; exact Nat.ne_of_gt (blk_lt (g := gb50) (o := .cells #[.slice A1_0 l1_0.length c1_0, .slice A1_1 l1_1.length c1_1, .slice A1_2 l1_2.length c1_2, .slice A1_3 l1_3.length c1_3, .slice A1_4 l1_4.length c1_4] 49 (0, 0)) (by (with_reducible repeat (first | refine blk_drewN ?_ _ | refine blk_drew ?_ | refine blk_alloc ?_ _)); exact BK50.out)) : gb101 ≠ gb50)); have n9_ := Aside0.mk ((by rw [hg]; exact Nat.ne_of_lt (blk_lt (g := gb51) (o := .cells #[.int .i64 a2] 3 (0, 0)) (by (with_reducible repeat (first | refine blk_drewN ?_ _ | refine blk_drew ?_ | refine blk_alloc ?_ _)); exact BK51.out)) : gb51 ≠ gb101)); have n10_ := Aside0.mk ((by rw [hg]; exact Nat.ne_of_gt (blk_lt (g := gb51) (o := .cells #[.int .i64 a2] 3 (0, 0)) (by (with_reducible repeat (first | refine blk_drewN ?_ _ | refine blk_drew ?_ | refine blk_alloc ?_ _)); exact BK51.out)) : gb101 ≠ gb51)); have n11_ := Aside0.mk ((by rw [hg]; exact Nat.ne_of_lt (blk_lt (g := gb52) (o := .cells #[.int .i64 a3] 3 (0, 0)) (by (with_reducible repeat (first | refine blk_drewN ?_ _ | refine blk_drew ?_ | refine blk_alloc ?_ _)); exact BK52.out)) : gb52 ≠ gb101)); have n12_ := Aside0.mk ((by rw [hg]; exact Nat.ne_of_gt (blk_lt (g := gb52) (o := .cells #[.int .i64 a3] 3 (0, 0)) (by (with_reducible repeat (first | refine blk_drewN ?_ _ | refine blk_drew ?_ | refine blk_alloc ?_ _)); exact BK52.out)) : gb101 ≠ gb52)); clear BK50; clear BK51; clear BK52; clear HB; have BK50 := n0_; have BK51 := n1_; have BK52 := n2_; have HB := n3_; have BK101 := n4_; have GW101 := n5_; have GE101 := n6_; have NB50_101 := n7_; have NB101_50 := n8_; have NB51_101 := n9_; have NB101_51 := n10_; have NB52_101 := n11_; have NB101_52 := n12_; clear n0_ n1_ n2_ n3_ n4_ n5_ n6_ n7_ n8_ n9_ n10_ n11_ n12_; clear hb hbox hg; have hnb13 := NB101_50.out; have hnc13 := NB50_101.out; have hnb14 := NB101_51.out; have hnc14 := NB51_101.out; have hnb15 := NB101_52.out; have hnc15 := NB52_101.out; have hcz16_0 : w12.cell? ⟨gb101, 0, none⟩ = some (.int .i64 a0_0) := (blk_cell BK101.out 0).trans rfl; have hcz16_1 : w12.cell? ⟨gb101, 1, none⟩ = some (.int .i64 a0_1) := (blk_cell BK101.out 1).trans rfl; have hfz16_0 := blk_frozen BK101.out 0; have hfz16_1 := blk_frozen BK101.out 1; have hnb17 := NB50_51.out; have hnc17 := NB51_50.out; have hnb18 := NB50_52.out; have hnc18 := NB52_50.out; have hcz19_0 : w12.cell? ⟨gb50, 0, none⟩ = some (.slice A1_0 l1_0.length c1_0) := (blk_cell BK50.out 0).trans rfl; have hcz19_1 : w12.cell? ⟨gb50, 1, none⟩ = some (.slice A1_1 l1_1.length c1_1) := (blk_cell BK50.out 1).trans rfl; have hcz19_2 : w12.cell? ⟨gb50, 2, none⟩ = some (.slice A1_2 l1_2.length c1_2) := (blk_cell BK50.out 2).trans rfl; have hcz19_3 : w12.cell? ⟨gb50, 3, none⟩ = some (.slice A1_3 l1_3.length c1_3) := (blk_cell BK50.out 3).trans rfl; have hcz19_4 : w12.cell? ⟨gb50, 4, none⟩ = some (.slice A1_4 l1_4.length c1_4) := (blk_cell BK50.out 4).trans rfl; have hfz19_0 := blk_frozen BK50.out 0; have hfz19_1 := blk_frozen BK50.out 1; have hfz19_2 := blk_frozen BK50.out 2; have hfz19_3 := blk_frozen BK50.out 3; have hfz19_4 := blk_frozen BK50.out 4))
      go_ret
      exact ⟨by first | rfl | (simp [errW_none, errW_some] <;> rfl) | (simp [*, errW_none, errW_some] <;> rfl), by repeat (first | (with_reducible first | exact HB.out | apply below_alloc | apply pw_below_drewN | apply below_drew1 | refine below_set ?_ GE50.out | refine below_set ?_ GE51.out | refine below_set ?_ GE52.out | refine below_set ?_ GE101.out) | exact HB.out)⟩
    · rw [if_neg c11] at H
      have c11b0 : decide ((l1_1.length : Int) ≤ a0_0) = false := decide_eq_false c11
      clear c11
      by_cases c20 : a0_1 ≤ a2
      · rw [if_pos c20] at H
        have c20b0 : decide (a0_1 ≤ a2) = true := decide_eq_true c20
        clear c20
        obtain rfl := Option.some.inj H
        go_enter Try.func47, Try.ntmps47
        go_wp2_with (first | ((with_reducible refine gate_dst (N := 4) rfl ?_); (try (refine gate_guard (by rfl) ?_; dsimp only)); refine box_event ?hg (N := 4) ?hd (cs := #[.int .i64 a0_0, .int .i64 a0_1]) (t := 60) ?hr ?_; (case hd => rfl); (case hg => rfl); (case hr => first | (go_simp; done) | (go_simp; rfl)); intro gb101 hg w21 hbox hb; have n0_ := Aside0.mk (blk_below (g := gb50) (o := .cells #[.slice A1_0 l1_0.length c1_0, .slice A1_1 l1_1.length c1_1, .slice A1_2 l1_2.length c1_2, .slice A1_3 l1_3.length c1_3, .slice A1_4 l1_4.length c1_4] 49 (0, 0)) (by (with_reducible repeat (first | refine blk_drewN ?_ _ | refine blk_drew ?_ | refine blk_alloc ?_ _)); exact BK50.out) hb); have n1_ := Aside0.mk (blk_below (g := gb51) (o := .cells #[.int .i64 a2] 3 (0, 0)) (by (with_reducible repeat (first | refine blk_drewN ?_ _ | refine blk_drew ?_ | refine blk_alloc ?_ _)); exact BK51.out) hb); have n2_ := Aside0.mk (blk_below (g := gb52) (o := .cells #[.int .i64 a3] 3 (0, 0)) (by (with_reducible repeat (first | refine blk_drewN ?_ _ | refine blk_drew ?_ | refine blk_alloc ?_ _)); exact BK52.out) hb); have n3_ := Aside0.mk (below_step (by repeat (first | (with_reducible first | exact HB.out | apply below_alloc | apply pw_below_drewN | apply below_drew1 | refine below_set ?_ GE50.out | refine below_set ?_ GE51.out | refine below_set ?_ GE52.out) | exact HB.out)) hb); have n4_ := Aside0.mk (hbox); have n5_ := Aside0.mk ((by rw [hg]; exact (below_size (by repeat (first | (with_reducible first | exact HB.out | apply below_alloc | apply pw_below_drewN | apply below_drew1 | refine below_set ?_ GE50.out | refine below_set ?_ GE51.out | refine below_set ?_ GE52.out) | exact HB.out))) : w.heap.size ≤ gb101)); have n6_ := Aside0.mk ((by rw [hg]; exact (below_size (by repeat (first | (with_reducible first | exact HB.out | apply below_alloc | apply pw_below_drewN | apply below_drew1 | refine below_set ?_ GE50.out | refine below_set ?_ GE51.out | refine below_set ?_ GE52.out) | exact HB.out))) : w.heap.size ≤ gb101)); have n7_ := Aside0.mk ((by rw [hg]; exact Nat.ne_of_lt (blk_lt (g := gb50) (o := .cells #[.slice A1_0 l1_0.length c1_0, .slice A1_1 l1_1.length c1_1, .slice A1_2 l1_2.length c1_2, .slice A1_3 l1_3.length c1_3, .slice A1_4 l1_4.length c1_4] 49 (0, 0)) (by (with_reducible repeat (first | refine blk_drewN ?_ _ | refine blk_drew ?_ | refine blk_alloc ?_ _)); exact BK50.out)) : gb50 ≠ gb101)); have n8_ := Aside0.mk ((by rw [hg]; exact Nat.ne_of_gt (blk_lt (g := gb50) (o := .cells #[.slice A1_0 l1_0.length c1_0, .slice A1_1 l1_1.length c1_1, .slice A1_2 l1_2.length c1_2, .slice A1_3 l1_3.length c1_3, .slice A1_4 l1_4.length c1_4] 49 (0, 0)) (by (with_reducible repeat (first | refine blk_drewN ?_ _ | refine blk_drew ?_ | refine blk_alloc ?_ _)); exact BK50.out)) : gb101 ≠ gb50)); have n9_ := Aside0.mk ((by rw [hg]; exact Nat.ne_of_lt (blk_lt (g := gb51) (o := .cells #[.int .i64 a2] 3 (0, 0)) (by (with_reducible repeat (first | refine blk_drewN ?_ _ | refine blk_drew ?_ | refine blk_alloc ?_ _)); exact BK51.out)) : gb51 ≠ gb101)); have n10_ := Aside0.mk ((by rw [hg]; exact Nat.ne_of_gt (blk_lt (g := gb51) (o := .cells #[.int .i64 a2] 3 (0, 0)) (by (with_reducible repeat (first | refine blk_drewN ?_ _ | refine blk_drew ?_ | refine blk_alloc ?_ _)); exact BK51.out)) : gb101 ≠ gb51)); have n11_ := Aside0.mk ((by rw [hg]; exact Nat.ne_of_lt (blk_lt (g := gb52) (o := .cells #[.int .i64 a3] 3 (0, 0)) (by (with_reducible repeat (first | refine blk_drewN ?_ _ | refine blk_drew ?_ | refine blk_alloc ?_ _)); exact BK52.out)) : gb52 ≠ gb101)); have n12_ := Aside0.mk ((by rw [hg]; exact Nat.ne_of_gt (blk_lt (g := gb52) (o := .cells #[.int .i64 a3] 3 (0, 0)) (by (with_reducible repeat (first | refine blk_drewN ?_ _ | refine blk_drew ?_ | refine blk_alloc ?_ _)); exact BK52.out)) : gb101 ≠ gb52)); clear BK50; clear BK51; clear BK52; clear HB; have BK50 := n0_; have BK51 := n1_; have BK52 := n2_; have HB := n3_; have BK101 := n4_; have GW101 := n5_; have GE101 := n6_; have NB50_101 := n7_; have NB101_50 := n8_; have NB51_101 := n9_; have NB101_51 := n10_; have NB52_101 := n11_; have NB101_52 := n12_; clear n0_ n1_ n2_ n3_ n4_ n5_ n6_ n7_ n8_ n9_ n10_ n11_ n12_; clear hb hbox hg; have hnb22 := NB101_50.out; have hnc22 := NB50_101.out; have hnb23 := NB101_51.out; have hnc23 := NB51_101.out; have hnb24 := NB101_52.out; have hnc24 := NB52_101.out; have hcz25_0 : w21.cell? ⟨gb101, 0, none⟩ = some (.int .i64 a0_0) := (blk_cell BK101.out 0).trans rfl; have hcz25_1 : w21.cell? ⟨gb101, 1, none⟩ = some (.int .i64 a0_1) := (blk_cell BK101.out 1).trans rfl; have hfz25_0 := blk_frozen BK101.out 0; have hfz25_1 := blk_frozen BK101.out 1; have hnb26 := NB50_51.out; have hnc26 := NB51_50.out; have hnb27 := NB50_52.out; have hnc27 := NB52_50.out; have hcz28_0 : w21.cell? ⟨gb50, 0, none⟩ = some (.slice A1_0 l1_0.length c1_0) := (blk_cell BK50.out 0).trans rfl; have hcz28_1 : w21.cell? ⟨gb50, 1, none⟩ = some (.slice A1_1 l1_1.length c1_1) := (blk_cell BK50.out 1).trans rfl; have hcz28_2 : w21.cell? ⟨gb50, 2, none⟩ = some (.slice A1_2 l1_2.length c1_2) := (blk_cell BK50.out 2).trans rfl; have hcz28_3 : w21.cell? ⟨gb50, 3, none⟩ = some (.slice A1_3 l1_3.length c1_3) := (blk_cell BK50.out 3).trans rfl; have hcz28_4 : w21.cell? ⟨gb50, 4, none⟩ = some (.slice A1_4 l1_4.length c1_4) := (blk_cell BK50.out 4).trans rfl; have hfz28_0 := blk_frozen BK50.out 0; have hfz28_1 := blk_frozen BK50.out 1; have hfz28_2 := blk_frozen BK50.out 2; have hfz28_3 := blk_frozen BK50.out 3; have hfz28_4 := blk_frozen BK50.out 4; have hnb29 := NB51_52.out; have hnc29 := NB52_51.out; have hcz30_0 : w21.cell? ⟨gb51, 0, none⟩ = some (.int .i64 a2) := (blk_cell BK51.out 0).trans rfl; have hfz30_0 := blk_frozen BK51.out 0))
        go_ret
        exact ⟨by first | rfl | (simp [errW_none, errW_some] <;> rfl) | (simp [*, errW_none, errW_some] <;> rfl), by repeat (first | (with_reducible first | exact HB.out | apply below_alloc | apply pw_below_drewN | apply below_drew1 | refine below_set ?_ GE50.out | refine below_set ?_ GE51.out | refine below_set ?_ GE52.out | refine below_set ?_ GE101.out) | exact HB.out)⟩
      · rw [if_neg c20] at H
        have c20b0 : decide (a0_1 ≤ a2) = false := decide_eq_false c20
        clear c20
        obtain rfl := Option.some.inj H
        go_enter Try.func47, Try.ntmps47
        go_wp2_with (first | ((with_reducible refine gate_dst (N := 4) rfl ?_); (try (refine gate_guard (by rfl) ?_; dsimp only)); refine box_event ?hg (N := 4) ?hd (cs := #[.int .i64 a0_0, .int .i64 a0_1]) (t := 60) ?hr ?_; (case hd => rfl); (case hg => rfl); (case hr => first | (go_simp; done) | (go_simp; rfl)); intro gb101 hg w31 hbox hb; have n0_ := Aside0.mk (blk_below (g := gb50) (o := .cells #[.slice A1_0 l1_0.length c1_0, .slice A1_1 l1_1.length c1_1, .slice A1_2 l1_2.length c1_2, .slice A1_3 l1_3.length c1_3, .slice A1_4 l1_4.length c1_4] 49 (0, 0)) (by (with_reducible repeat (first | refine blk_drewN ?_ _ | refine blk_drew ?_ | refine blk_alloc ?_ _)); exact BK50.out) hb); have n1_ := Aside0.mk (blk_below (g := gb51) (o := .cells #[.int .i64 a2] 3 (0, 0)) (by (with_reducible repeat (first | refine blk_drewN ?_ _ | refine blk_drew ?_ | refine blk_alloc ?_ _)); exact BK51.out) hb); have n2_ := Aside0.mk (blk_below (g := gb52) (o := .cells #[.int .i64 a3] 3 (0, 0)) (by (with_reducible repeat (first | refine blk_drewN ?_ _ | refine blk_drew ?_ | refine blk_alloc ?_ _)); exact BK52.out) hb); have n3_ := Aside0.mk (below_step (by repeat (first | (with_reducible first | exact HB.out | apply below_alloc | apply pw_below_drewN | apply below_drew1 | refine below_set ?_ GE50.out | refine below_set ?_ GE51.out | refine below_set ?_ GE52.out) | exact HB.out)) hb); have n4_ := Aside0.mk (hbox); have n5_ := Aside0.mk ((by rw [hg]; exact (below_size (by repeat (first | (with_reducible first | exact HB.out | apply below_alloc | apply pw_below_drewN | apply below_drew1 | refine below_set ?_ GE50.out | refine below_set ?_ GE51.out | refine below_set ?_ GE52.out) | exact HB.out))) : w.heap.size ≤ gb101)); have n6_ := Aside0.mk ((by rw [hg]; exact (below_size (by repeat (first | (with_reducible first | exact HB.out | apply below_alloc | apply pw_below_drewN | apply below_drew1 | refine below_set ?_ GE50.out | refine below_set ?_ GE51.out | refine below_set ?_ GE52.out) | exact HB.out))) : w.heap.size ≤ gb101)); have n7_ := Aside0.mk ((by rw [hg]; exact Nat.ne_of_lt (blk_lt (g := gb50) (o := .cells #[.slice A1_0 l1_0.length c1_0, .slice A1_1 l1_1.length c1_1, .slice A1_2 l1_2.length c1_2, .slice A1_3 l1_3.length c1_3, .slice A1_4 l1_4.length c1_4] 49 (0, 0)) (by (with_reducible repeat (first | refine blk_drewN ?_ _ | refine blk_drew ?_ | refine blk_alloc ?_ _)); exact BK50.out)) : gb50 ≠ gb101)); have n8_ := Aside0.mk ((by rw [hg]; exact Nat.ne_of_gt (blk_lt (g := gb50) (o := .cells #[.slice A1_0 l1_0.length c1_0, .slice A1_1 l1_1.length c1_1, .slice A1_2 l1_2.length c1_2, .slice A1_3 l1_3.length c1_3, .slice A1_4 l1_4.length c1_4] 49 (0, 0)) (by (with_reducible repeat (first | refine blk_drewN ?_ _ | refine blk_drew ?_ | refine blk_alloc ?_ _)); exact BK50.out)) : gb101 ≠ gb50)); have n9_ := Aside0.mk ((by rw [hg]; exact Nat.ne_of_lt (blk_lt (g := gb51) (o := .cells #[.int .i64 a2] 3 (0, 0)) (by (with_reducible repeat (first | refine blk_drewN ?_ _ | refine blk_drew ?_ | refine blk_alloc ?_ _)); exact BK51.out)) : gb51 ≠ gb101)); have n10_ := Aside0.mk ((by rw [hg]; exact Nat.ne_of_gt (blk_lt (g := gb51) (o := .cells #[.int .i64 a2] 3 (0, 0)) (by (with_reducible repeat (first | refine blk_drewN ?_ _ | refine blk_drew ?_ | refine blk_alloc ?_ _)); exact BK51.out)) : gb101 ≠ gb51)); have n11_ := Aside0.mk ((by rw [hg]; exact Nat.ne_of_lt (blk_lt (g := gb52) (o := .cells #[.int .i64 a3] 3 (0, 0)) (by (with_reducible repeat (first | refine blk_drewN ?_ _ | refine blk_drew ?_ | refine blk_alloc ?_ _)); exact BK52.out)) : gb52 ≠ gb101)); have n12_ := Aside0.mk ((by rw [hg]; exact Nat.ne_of_gt (blk_lt (g := gb52) (o := .cells #[.int .i64 a3] 3 (0, 0)) (by (with_reducible repeat (first | refine blk_drewN ?_ _ | refine blk_drew ?_ | refine blk_alloc ?_ _)); exact BK52.out)) : gb101 ≠ gb52)); clear BK50; clear BK51; clear BK52; clear HB; have BK50 := n0_; have BK51 := n1_; have BK52 := n2_; have HB := n3_; have BK101 := n4_; have GW101 := n5_; have GE101 := n6_; have NB50_101 := n7_; have NB101_50 := n8_; have NB51_101 := n9_; have NB101_51 := n10_; have NB52_101 := n11_; have NB101_52 := n12_; clear n0_ n1_ n2_ n3_ n4_ n5_ n6_ n7_ n8_ n9_ n10_ n11_ n12_; clear hb hbox hg; have hnb32 := NB101_50.out; have hnc32 := NB50_101.out; have hnb33 := NB101_51.out; have hnc33 := NB51_101.out; have hnb34 := NB101_52.out; have hnc34 := NB52_101.out; have hcz35_0 : w31.cell? ⟨gb101, 0, none⟩ = some (.int .i64 a0_0) := (blk_cell BK101.out 0).trans rfl; have hcz35_1 : w31.cell? ⟨gb101, 1, none⟩ = some (.int .i64 a0_1) := (blk_cell BK101.out 1).trans rfl; have hfz35_0 := blk_frozen BK101.out 0; have hfz35_1 := blk_frozen BK101.out 1; have hnb36 := NB50_51.out; have hnc36 := NB51_50.out; have hnb37 := NB50_52.out; have hnc37 := NB52_50.out; have hcz38_0 : w31.cell? ⟨gb50, 0, none⟩ = some (.slice A1_0 l1_0.length c1_0) := (blk_cell BK50.out 0).trans rfl; have hcz38_1 : w31.cell? ⟨gb50, 1, none⟩ = some (.slice A1_1 l1_1.length c1_1) := (blk_cell BK50.out 1).trans rfl; have hcz38_2 : w31.cell? ⟨gb50, 2, none⟩ = some (.slice A1_2 l1_2.length c1_2) := (blk_cell BK50.out 2).trans rfl; have hcz38_3 : w31.cell? ⟨gb50, 3, none⟩ = some (.slice A1_3 l1_3.length c1_3) := (blk_cell BK50.out 3).trans rfl; have hcz38_4 : w31.cell? ⟨gb50, 4, none⟩ = some (.slice A1_4 l1_4.length c1_4) := (blk_cell BK50.out 4).trans rfl; have hfz38_0 := blk_frozen BK50.out 0; have hfz38_1 := blk_frozen BK50.out 1; have hfz38_2 := blk_frozen BK50.out 2; have hfz38_3 := blk_frozen BK50.out 3; have hfz38_4 := blk_frozen BK50.out 4; have hnb39 := NB51_52.out; have hnc39 := NB52_51.out; have hcz40_0 : w31.cell? ⟨gb51, 0, none⟩ = some (.int .i64 a2) := (blk_cell BK51.out 0).trans rfl; have hfz40_0 := blk_frozen BK51.out 0; have hcz41_0 : w31.cell? ⟨gb52, 0, none⟩ = some (.int .i64 a3) := (blk_cell BK52.out 0).trans rfl; have hfz41_0 := blk_frozen BK52.out 0))
        go_ret
        exact ⟨by first | rfl | (simp [errW_none, errW_some] <;> rfl) | (simp [*, errW_none, errW_some] <;> rfl), by repeat (first | (with_reducible first | exact HB.out | apply below_alloc | apply pw_below_drewN | apply below_drew1 | refine below_set ?_ GE50.out | refine below_set ?_ GE51.out | refine below_set ?_ GE52.out | refine below_set ?_ GE101.out) | exact HB.out)⟩

-- NOT PRINTED: function 63 (slices_IndexFunc_int_int_63)

-- NOT PRINTED: function 48 (slices_ContainsFunc_int_int_48)

-- NOT PRINTED: function 71 (slices_Grow_int_int)

-- NOT PRINTED: function 64 (slices_Concat_int_int)

-- NOT PRINTED: function 49 (rules_context)

/-! ### sets_Right: function 65 -/
def sets_Right.l0 : Nat → List Int → Int → Option (Bool)
  | 0, _, _ => none
  | k + 1, x0, x3 => if x3 < (x0.length : Int) then (if 0 ≤ (wrap64 (x3 - 1)) then (if (wrap64 (x3 - 1)) < (x0.length : Int) then (if 0 ≤ x3 then (if (rd x0 (wrap64 (x3 - 1))) ≥ (rd x0 x3) then (some false) else (sets_Right.l0 k x0 (wrap64 (x3 + 1)))) else (none)) else (none)) else (none)) else (some true)
def sets_Right.f (k : Nat) (l0 : List Int) : Option (Bool) := sets_Right.l0 k l0 1
theorem sets_Right.mono_l : ∀ k, (∀ y0 y1, LeO (sets_Right.l0 k y0 y1) (sets_Right.l0 (k + 1) y0 y1))
  | 0 => fun _ _ r h => by simp [sets_Right.l0] at h
  | k + 1 => by
    have ih0 := sets_Right.mono_l k
    · intro y0 y1
      unfold sets_Right.l0
      repeat' first
      | (with_reducible exact ih0 _ _)
      | (with_reducible exact LeO.refl _)
      | (with_reducible exact LeO.none _)
      | (with_reducible refine LeO.ite ?_ ?_)
      | (with_reducible refine LeO.bind ?_ (fun _ => ?_))
      | exact ih0 _ _
      | exact LeO.none _
      | refine LeO.ite ?_ ?_
      | refine LeO.bind ?_ (fun _ => ?_)
theorem sets_Right.mono : ∀ a0 k, LeO (sets_Right.f k a0) (sets_Right.f (k + 1) a0) := by
  intro a0 k
  have ih0 := sets_Right.mono_l k
  unfold sets_Right.f
  repeat' first
      | (with_reducible exact ih0 _ _)
      | (with_reducible exact LeO.refl _)
      | (with_reducible exact LeO.none _)
      | (with_reducible refine LeO.ite ?_ ?_)
      | (with_reducible refine LeO.bind ?_ (fun _ => ?_))
      | exact ih0 _ _
      | exact LeO.none _
      | refine LeO.ite ?_ ?_
      | refine LeO.bind ?_ (fun _ => ?_)
set_option maxHeartbeats 8000000 in
set_option maxRecDepth 100000 in
theorem sets_Right.calls (k : Nat) (A0 : Option Addr) (c0 : Nat) (l0 : List Int) (r : Bool) (w : World) (hr0 : Kd.C (Kd.int .i64) w A0 l0.length l0) (hc0 : l0.length ≤ c0) (h : sets_Right.f k l0 = some r) :
    Calls Try.prog 65 #[.slice A0 l0.length c0] w fun e w' => e = .returned (.bool r) ∧ Drawn0 w w' := by
  have HR0 := Aside0.mk hr0
  have HC0 := Aside0.mk hc0
  clear hr0 hc0
  have H : (sets_Right.l0 k l0 1) = some r := h
  clear h
  have H' := Aside0.mk H
  clear H
  go_enter Try.func65, Try.ntmps65
  go_wp2
  repeat (go_quiet (fail); try go_wp2)
  go_loopg [3] k (fun kq v3 w' => ∃ (x3_1 : Int), v3 = .int .i64 x3_1 ∧ Aside0 (sets_Right.l0 kq l0 x3_1 = some r) ∧ Aside0 (kq ≤ k) ∧ Drawn0 w w')
  case atStart => exact ⟨(1), (by first | rfl | (simp; done) | (simp [*]; done)), H', ⟨Nat.le_refl _⟩, by repeat (first | exact Drawn0.refl _ | apply Drawn0.step)⟩
  case round =>
    clear H'
    obtain ⟨x3_1, rfl, HA, HK1, ⟨m1, rfl⟩⟩ := hrel
    cases gk with
    | zero => exact absurd HA.out (by simp [sets_Right.l0])
    | succ k1 =>
      have H := HA.out
      clear HA
      simp only [sets_Right.l0] at H
      by_cases c2 : x3_1 < (l0.length : Int)
      · rw [if_pos c2] at H
        have c2b0 : decide (x3_1 < (l0.length : Int)) = true := decide_eq_true c2
        clear c2
        obtain ⟨ji3, hji3⟩ : ∃ j_ : Int, (wrap64 (x3_1 - 1)) = j_ := ⟨_, rfl⟩
        replace H : (if 0 ≤ (ji3) then (if (ji3) < (l0.length : Int) then (if 0 ≤ x3_1 then (if (rd l0 (ji3)) ≥ (rd l0 x3_1) then (some false) else (sets_Right.l0 k1 l0 (wrap64 (x3_1 + 1)))) else (none)) else (none)) else (none)) = some r := by first | (rw [hji3] at H; exact H) | (simp only [hji3] at H ⊢; exact H)
        have hji3w : (IntKind.i64.wrap (x3_1 - 1)) = ji3 := (i64_w _).trans hji3
        by_cases c4 : 0 ≤ (ji3)
        · rw [if_pos c4] at H
          have c4b0 : decide (0 ≤ (ji3)) = true := decide_eq_true c4
          clear c4
          by_cases c5 : (ji3) < (l0.length : Int)
          · rw [if_pos c5] at H
            have c5b0 : decide ((ji3) < (l0.length : Int)) = true := decide_eq_true c5
            clear c5
            by_cases c6 : 0 ≤ x3_1
            · rw [if_pos c6] at H
              have c6b0 : decide (0 ≤ x3_1) = true := decide_eq_true c6
              clear c6
              by_cases c7 : (rd l0 (ji3)) ≥ (rd l0 x3_1)
              · rw [if_pos c7] at H
                have c7b0 : decide ((rd l0 x3_1) ≤ (rd l0 (ji3))) = true := decide_eq_true c7
                clear c7
                obtain rfl := Option.some.inj H
                have p107 : 0 ≤ ((ji3) : Int) := of_decide_eq_true (by first | (with_reducible assumption) | assumption)
                have q107 : (ji3) < (l0.length : Int) := of_decide_eq_true (by first | (with_reducible assumption) | assumption)
                obtain ⟨ad107, e107, hx107_0⟩ := Kd.at_int HR0.out (ji3) p107 q107
                cases e107
                replace p107 := eq_true p107
                replace q107 := eq_true q107
                have p108 : 0 ≤ (x3_1 : Int) := of_decide_eq_true (by first | (with_reducible assumption) | assumption)
                have q108 : x3_1 < (l0.length : Int) := of_decide_eq_true (by first | (with_reducible assumption) | assumption)
                obtain ⟨ad108, e108, hx108_0⟩ := Kd.at_int HR0.out x3_1 p108 q108
                obtain rfl : ad107 = ad108 := (by injection e108)
                replace p108 := eq_true p108
                replace q108 := eq_true q108
                go_wp2
                repeat (go_quiet (fail); try go_wp2)
                go_ret
                exact ⟨by first | rfl | (simp; done) | (simp only [← hji3] <;> (first | rfl | simp)) | (simp [*]; done), by repeat (first | exact Drawn0.refl _ | apply Drawn0.step)⟩
              · rw [if_neg c7] at H
                have c7b0 : decide ((rd l0 x3_1) ≤ (rd l0 (ji3))) = false := decide_eq_false c7
                clear c7
                have H' := Aside0.mk H
                clear H
                have p107 : 0 ≤ ((ji3) : Int) := of_decide_eq_true (by first | (with_reducible assumption) | assumption)
                have q107 : (ji3) < (l0.length : Int) := of_decide_eq_true (by first | (with_reducible assumption) | assumption)
                obtain ⟨ad107, e107, hx107_0⟩ := Kd.at_int HR0.out (ji3) p107 q107
                cases e107
                replace p107 := eq_true p107
                replace q107 := eq_true q107
                have p108 : 0 ≤ (x3_1 : Int) := of_decide_eq_true (by first | (with_reducible assumption) | assumption)
                have q108 : x3_1 < (l0.length : Int) := of_decide_eq_true (by first | (with_reducible assumption) | assumption)
                obtain ⟨ad108, e108, hx108_0⟩ := Kd.at_int HR0.out x3_1 p108 q108
                obtain rfl : ad107 = ad108 := (by injection e108)
                replace p108 := eq_true p108
                replace q108 := eq_true q108
                go_wp2
                repeat (go_quiet (fail); try go_wp2)
                go_roundg k1
                case measure => have := HK1.out; omega
                case rel => exact ⟨(wrap64 (x3_1 + 1)), (by first | rfl | (simp; done) | (simp [*]; done)), H', ⟨by have := HK1.out; omega⟩, by repeat (first | exact Drawn0.refl _ | apply Drawn0.step)⟩
            · rw [if_neg c6] at H
              exact absurd H (by simp)
          · rw [if_neg c5] at H
            exact absurd H (by simp)
        · rw [if_neg c4] at H
          exact absurd H (by simp)
      · rw [if_neg c2] at H
        have c2b0 : decide (x3_1 < (l0.length : Int)) = false := decide_eq_false c2
        clear c2
        obtain rfl := Option.some.inj H
        go_wp2
        repeat (go_quiet (fail); try go_wp2)
        go_ret
        exact ⟨by first | rfl | (simp; done) | (simp [*]; done), by repeat (first | exact Drawn0.refl _ | apply Drawn0.step)⟩

/-! ### rules_wrongSet: function 50 -/
def rules_wrongSet.f (k : Nat) (l0 : List Int) : Option (Bool) := if (l0.length : Int) = 0 then (some true) else ((sets_Right.f k l0).bind fun t109 => (some (!t109)))
theorem rules_wrongSet.mono : ∀ a0 k, LeO (rules_wrongSet.f k a0) (rules_wrongSet.f (k + 1) a0) := by
  intro a0 k
  unfold rules_wrongSet.f
  repeat' first
      | (with_reducible exact sets_Right.mono _ _)
      | (with_reducible exact LeO.refl _)
      | (with_reducible exact LeO.none _)
      | (with_reducible refine LeO.ite ?_ ?_)
      | (with_reducible refine LeO.bind ?_ (fun _ => ?_))
      | exact sets_Right.mono _ _
      | exact LeO.none _
      | refine LeO.ite ?_ ?_
      | refine LeO.bind ?_ (fun _ => ?_)
set_option maxHeartbeats 8000000 in
set_option maxRecDepth 100000 in
theorem rules_wrongSet.calls (k : Nat) (A0 : Option Addr) (c0 : Nat) (l0 : List Int) (r : Bool) (w : World) (hr0 : Kd.C (Kd.int .i64) w A0 l0.length l0) (hc0 : l0.length ≤ c0) (h : rules_wrongSet.f k l0 = some r) :
    Calls Try.prog 50 #[.slice A0 l0.length c0] w fun e w' => e = .returned (.bool r) ∧ Drawn0 w w' := by
  have HR0 := Aside0.mk hr0
  have HC0 := Aside0.mk hc0
  clear hr0 hc0
  have H : (if (l0.length : Int) = 0 then (some true) else ((sets_Right.f k l0).bind fun t109 => (some (!t109)))) = some r := h
  clear h
  by_cases c2 : (l0.length : Int) = 0
  · rw [if_pos c2] at H
    have c2b0 : ((l0.length : Int) == 0) = true := beq_iff_eq.mpr c2
    have c2b1 : ((l0.length : Int) != 0) = false := bne_eq_false_iff_eq.mpr c2
    clear c2
    obtain rfl := Option.some.inj H
    go_enter Try.func50, Try.ntmps50
    go_wp2
    go_ret
    exact ⟨by first | rfl | (simp; done) | (simp [*]; done), by repeat (first | exact Drawn0.refl _ | apply Drawn0.step)⟩
  · rw [if_neg c2] at H
    have c2b0 : ((l0.length : Int) == 0) = false := beq_eq_false_iff_ne.mpr c2
    have c2b1 : ((l0.length : Int) != 0) = true := bne_iff_ne.mpr c2
    have c2b2 : ¬ (l0 = []) := fun h_ => c2 (by rw [h_]; rfl)
    replace H := Option.bind_eq_some_iff.mp H
    obtain ⟨t109, A30, H⟩ := H
    replace H : (some (!t109)) = some r := H
    have A3 := Aside0.mk A30
    clear A30
    obtain rfl := Option.some.inj H
    go_enter Try.func50, Try.ntmps50
    go_wp2_with (first | (go_at_call 65; (with_reducible refine (sets_Right.calls k _ _ l0 t109 _ ?side1 ?side2 A3.out).mono ?_); (case side1 => repeat (first | exact HR0.out | (with_reducible refine Kd.C_alloc ?_ _) | (with_reducible refine Kd.C_drewN ?_ _) | (with_reducible refine Kd.C_drew ?_))); (case side2 => exact HC0.out); rintro e w' ⟨rfl, ⟨nd, rfl⟩⟩))
    go_ret
    exact ⟨by first | rfl | (simp; done) | (simp [*]; done), by repeat (first | exact Drawn0.refl _ | apply Drawn0.step)⟩

-- NOT PRINTED: function 66 (api_Call_66)

-- NOT PRINTED: function 51 (api_Call_51)

-- NOT PRINTED: function 34 (rules_checkRule)

end Go.Proofs.Ytlgkeaildncojaa.Q
end
section
/- rules.context, checkRule, Check. -/
namespace Go.Proofs.Ytlgkeaildncojaa.Q
open Go.RowKit Go.Shelf Go.Proofs.YtlgkeaildncojaaW.PrintWords Go.Proofs.YtlgkeaildncojaaW.PrintLast Go.Proofs.YtlgkeaildncojaaW.PrintMore
set_option linter.unusedSimpArgs false
set_option linter.unusedVariables false
attribute [local go_sem] Oper.semAt_some
theorem rdN (l : List Int) (i : Nat) : rd l (i : Int) = l.getD i 0 := by
  unfold rd
  rw [Int.toNat_natCast]
theorem dropC (ks : List Int) (off : Nat) (h : off < ks.length) : ks.drop off = ks.getD off 0 :: ks.drop (off + 1) := by
  rw [List.drop_eq_getElem_cons h, List.getD_eq_getElem?_getD, List.getElem?_eq_getElem h]
  rfl
theorem wr64 (x : Int) (h0 : -9223372036854775808 ≤ x) (h1 : x ≤ 9223372036854775807) : wrap64 x = x := by unfold wrap64; omega
/-- Strictly increasing. -/
def rightP : List Int → Bool
  | [] => true
  | [_] => true
  | x :: y :: r => if x ≥ y then false else rightP (y :: r)
theorem right_l0 (l : List Int) (hl : l.length ≤ 9223372036854775807) : ∀ (d i : Nat), i + 1 + d = l.length → Ev (fun k => sets_Right.l0 k l ((i + 1 : Nat) : Int)) (rightP (l.drop i)) := by
  intro d
  induction d with
  | zero =>
    intro i h
    rw [dropC l i (by omega), List.drop_of_length_le (by omega)]
    refine Ev.step (fun k => by rw [sets_Right.l0, if_neg (by omega)]) ?_
    exact Ev.now _
  | succ d ih =>
    intro i h
    have h2 := ih (i + 1) (by omega)
    have e1 := dropC l i (by omega)
    have e2 := dropC l (i + 1) (by omega)
    have r1 := rdN l i
    have r2 := rdN l (i + 1)
    rw [e1, e2, rightP]
    rw [e2] at h2
    have q0 : ((i + 1 : Nat) : Int) < (l.length : Int) := by omega
    have hw : wrap64 (((i + 1 : Nat) : Int) - 1) = (i : Int) := by rw [wr64 _ (by omega) (by omega)]; omega
    have q1 : (0 : Int) ≤ (i : Int) := by omega
    have q2 : (i : Int) < (l.length : Int) := by omega
    have q3 : (0 : Int) ≤ ((i + 1 : Nat) : Int) := by omega
    have hw2 : wrap64 (((i + 1 : Nat) : Int) + 1) = ((i + 1 + 1 : Nat) : Int) := by rw [wr64 _ (by omega) (by omega)]; omega
    refine Ev.step (fun k => by rw [sets_Right.l0, if_pos q0, hw, if_pos q1, if_pos q2, if_pos q3, r1, r2, hw2]) ?_
    by_cases hc : l.getD i 0 ≥ l.getD (i + 1) 0
    · rw [if_pos hc]
      exact Ev.congr (fun k => by rw [if_pos hc]) (Ev.now _)
    · rw [if_neg hc]
      exact Ev.congr (fun k => by rw [if_neg hc]) h2
theorem right_ev (l : List Int) (hl : l.length ≤ 9223372036854775807) : Ev (fun k => sets_Right.f k l) (rightP l) := by
  unfold sets_Right.f
  cases l with
  | nil =>
    refine Ev.step (fun k => by rw [sets_Right.l0, if_neg (by simp)]) ?_
    exact Ev.now _
  | cons x r => exact right_l0 (x :: r) hl r.length 0 (by simp; omega)
def wrongP (l : List Int) : Bool := l.isEmpty || !rightP l
theorem wrong_ev (l : List Int) (hl : l.length ≤ 9223372036854775807) : Ev (fun k => rules_wrongSet.f k l) (wrongP l) := by
  unfold rules_wrongSet.f
  cases l with
  | nil => exact Ev.congr (fun k => by rw [if_pos (by simp)]; rfl) (Ev.now _)
  | cons x r =>
    refine Ev.congr (fun k => by rw [if_neg (by simp; omega)]) ?_
    exact Ev.bind (g := fun k => sets_Right.f k (x :: r)) (right_ev _ hl) (Ev.now _)
def unkP (G g : Int) : Bool := decide (g < 0) || decide (g ≥ G)
theorem unk_f (G g : Int) : rules_checkRule_1_1.f g G = some (unkP G g) := by
  unfold rules_checkRule_1_1.f unkP
  split
  · rename_i h; rw [decide_eq_true h]; rfl
  · rename_i h; rw [decide_eq_false h]; rfl
def callP (n : Nat) (k L : Int) (c : S60) : Bool := decide (c.f0 < 0) || decide (c.f0 ≥ (n : Int)) || decide (c.f1 ≤ k) || decide (c.f1 ≥ L)
/-- The error of a rule. -/
def ruleP (r : S49) (k L G : Int) : Int :=
  if r.f1.length = 0 ∨ r.f1.length > 4 ∨ r.f0.length > 3 ∨ r.f2.length > 3 then 31
  else if r.f3.length > 4 ∨ r.f4.length > 3 ∨ (r.f3.length > 0 ∧ r.f4.length > 0) then 31
  else if (r.f1 ++ r.f0 ++ r.f2).any wrongP = true then 31
  else if (r.f1 ++ r.f0 ++ r.f2).any (fun l => l.any (unkP G)) = true ∨ r.f3.any (unkP G) = true then 30
  else if r.f4.any (callP r.f1.length k L) = true then 32 else 0
def rulesP (k L G : Int) : List S49 → Int
  | [] => 0
  | r :: rs => if ruleP r k L G = 0 then rulesP k L G rs else ruleP r k L G
/-- The error of a lookup. -/
def checkP (rs : List S49) (k L G : Int) : Int :=
  if L < 1 ∨ L > 12 ∨ k < 0 ∨ k ≥ L ∨ G < 1 ∨ G > 100 then 1 else if rs.length > 8 then 2 else rulesP k L G rs
/-- A literal row of elements that lead to old memory. -/
theorem litOld {α : Type} (d : Kd α) (w0 : World) (e base : Nat) (W : World) (xs : List α) (inner : List Value) (hb : base ≤ W.heap.size) (hm : xs.length ≤ maxLen) (hrep : Reps (d.K w0) d.sz xs inner) : (Kd.old d w0).R e (W.alloc (.cells inner.toArray e)) base (fun k => W.heap.size ≤ k) (.slice (some ⟨W.heap.size, 0, none⟩) xs.length xs.length) xs := by
  have hl := hrep.1
  refine ⟨fun k hk => ?_, inner, ⟨hl, .inr ⟨W.heap.size, xs.length, inner.toArray, rfl, hb, blk_new W _, Nat.le_refl _, hm, ?_, ?_⟩⟩, hrep⟩
  · injection hk with hk
    rw [← hk]
    exact Nat.le_refl _
  · rw [List.size_toArray]
    exact hl
  · rw [List.take_of_length_le]
    exact Nat.le_of_eq hl
theorem c49 {w : World} {A : Option Addr} {f : List (List Int)} {c : Nat} (hc : f.length ≤ c) (h : (Kd.slice 3 (Kd.int .i64)).C w A f.length f) : (Kd.slice 26 (Kd.slice 3 (Kd.int .i64))).K w f [.slice A f.length c] := ⟨A, c, rfl, hc, h⟩
set_option maxRecDepth 100000 in
set_option maxHeartbeats 4000000 in
theorem context_calls (f0 f1 f2 : List (List Int)) (A0 A1 A2 : Option Addr) (c0 c1 c2 : Nat) (v3 v4 : Value) (o3 : v3.oneCell' = true) (o4 : v4.oneCell' = true) (w : World) (h0 : (Kd.slice 3 (Kd.int .i64)).C w A0 f0.length f0) (h1 : (Kd.slice 3 (Kd.int .i64)).C w A1 f1.length f1) (h2 : (Kd.slice 3 (Kd.int .i64)).C w A2 f2.length f2) (hc0 : f0.length ≤ c0) (hc1 : f1.length ≤ c1) (hc2 : f2.length ≤ c2) (b0 : f0.length ≤ 4) (b1 : f1.length ≤ 4) (b2 : f2.length ≤ 4) :
    Calls Try.prog 49 #[.agg #[.slice A0 f0.length c0, .slice A1 f1.length c1, .slice A2 f2.length c2, v3, v4]] w fun e w' => ∃ A c, e = .returned (.slice A (f1 ++ f0 ++ f2).length c) ∧ (Kd.slice 3 (Kd.int .i64)).C w' A (f1 ++ f0 ++ f2).length (f1 ++ f0 ++ f2) ∧ Below w.heap.size w w' := by
  have hfl : [f1, f0, f2].flatten = f1 ++ f0 ++ f2 := by simp
  have hfb : [f1, f0, f2].flatten.length ≤ 1000000 := by rw [hfl, List.length_append, List.length_append]; omega
  generalize f1 ++ f0 ++ f2 = fl at hfl ⊢
  have HFL := Aside0.mk hfl
  have HFB := Aside0.mk hfb
  have HL3 : Aside0 ([f1, f0, f2].length ≤ 1000) := ⟨by simp⟩
  have HREP : Aside0 (Reps ((Kd.slice 26 (Kd.slice 3 (Kd.int .i64))).K w) 1 [f1, f0, f2] [.slice A1 f1.length c1, .slice A0 f0.length c0, .slice A2 f2.length c2]) := ⟨(((Reps.none _ 1).snoc (c49 hc1 h1) rfl).snoc (c49 hc0 h0) rfl).snoc (c49 hc2 h2) rfl⟩
  have HO := Own.start w
  clear h0 h1 h2 hc0 hc1 hc2 b0 b1 b2 hfl hfb
  go_enter Try.func49, Try.ntmps49
  go_wp2_with (first
    | ((with_reducible refine gate_dst (N := 1) rfl ?_); refine ev_box (N := 1) (cs := #[.slice A0 f0.length c0, .slice A1 f1.length c1, .slice A2 f2.length c2, v3, v4]) (t := 49) HO rfl rfl ?hr ?_; (case hr => first | (go_simp; done) | (go_simp; rfl)); intro g1 W1 HO1 hb1; clear HO hb1; have z0 := HO1.box_cell 0 rfl 0 rfl; have z1 := HO1.box_cell 0 rfl 1 rfl; have z2 := HO1.box_cell 0 rfl 2 rfl)
    | (go_at_call 64; go_loud (have HO2 := HO1.add (r := .row (Kd.old (Kd.slice 26 (Kd.slice 3 (Kd.int .i64))) w) 25 w.heap.size (.slice (some ⟨W1.heap.size, 0, none⟩) 3 3) [f1, f0, f2]) (below_alloc (Below.refl _ _) _) (litOld (Kd.slice 26 (Kd.slice 3 (Kd.int .i64))) w 25 w.heap.size W1 [f1, f0, f2] [.slice A1 f1.length c1, .slice A0 f0.length c0, .slice A2 f2.length c2] HO1.le (show (3 : Nat) ≤ maxLen by unfold maxLen; decide) HREP.out); have hC2 := Kd.C_old (HO2.row_sl 1 rfl).2.2 HO2.below; (refine (concatL_calls _ 3 [f1, f0, f2] _ hC2 HL3.out HFB.out).mono ?_); rintro e W3 ⟨v9, rfl, hR3, hb3⟩; have HO3 := HO2.called hb3 hR3; obtain ⟨A9, c9, he9, hl9, hC9⟩ := HO3.row_at 2 rfl; have hC := Kd.C_old hC9 hb3; rw [HFL.out] at he9 hC; subst he9; have HC := Aside0.mk hC; have HOB := Aside0.mk HO3.below; clear HO1 HO2 hC2 hR3 hb3 HO3 hl9 hC9 hC z0 z1 z2)))
  go_ret
  exact ⟨_, _, rfl, HC.out, HOB.out⟩

theorem box_below {w w' : World} {g t : Nat} {cs : Array Value} (h : w.heap[g]? = some (.cells cs t (0, 0))) (hb : Below w.heap.size w w') : w'.heap[g]? = some (.cells cs t (0, 0)) := (hb.block g (blk_lt h)).trans h
set_option maxHeartbeats 1000000 in
theorem unknown_calls (G : Int) (g : Nat) (A : Option Addr) (c : Nat) (l : List Int) (w : World) (hr : (Kd.int .i64).C w A l.length l) (hb0 : w.heap[g]? = some (.cells #[.int .i64 G] 3 (0, 0))) :
    Calls Try.prog 44 #[.slice A l.length c, .pointer (some ⟨g, 0, none⟩)] w fun e w' => e = .returned (.bool (l.any (unkP G))) ∧ Below w.heap.size w w' := by
  have hmf : ∀ (fn : Fn) (first cap : Array Value) (w : World), (Instr.makeFunc fn first cap).run Try.prog w = .ok (.func fn first cap) w := fun _ _ _ _ => rfl
  have HI := Aside0.mk (conI (unkP G) 46 #[.pointer (some ⟨g, 0, none⟩)] (enters_ (P := Try.prog) Try.func46 (by kernel_rfl) rfl) A c l w hr (fun x _ W hb => rules_checkRule_1_1.calls x G _ W (box_below hb0 hb) (unk_f G x)))
  clear hr hb0
  go_enter Try.func44, Try.ntmps44
  go_wp2_with (first
    | (go_at_call 45; refine HI.out.mono ?_; rintro e w' ⟨rfl, hb⟩))
  go_ret
  exact ⟨rfl, hb⟩
theorem call_f (n : Nat) (k L : Int) (f0 f1 f2 : List (List Int)) (f3 : List Int) (f4 : List S60) (x : S60) (h : f1.length = n) : rules_checkRule_2.f x.f0 x.f1 f0 f1 f2 f3 f4 k L = some (callP n k L x) := by
  unfold rules_checkRule_2.f callP
  rw [h]
  split
  · rename_i h; rw [decide_eq_true h]; rfl
  · rename_i h
    rw [decide_eq_false h]
    split
    · rename_i h; rw [decide_eq_true h]; rfl
    · rename_i h
      rw [decide_eq_false h]
      split
      · rename_i h; rw [decide_eq_true h]; rfl
      · rename_i h; rw [decide_eq_false h]; rfl
set_option maxRecDepth 100000 in
set_option maxHeartbeats 8000000 in
theorem checkRule_calls (f0 f1 f2 : List (List Int)) (f3 : List Int) (f4 : List S60) (A0 A1 A2 A3 A4 : Option Addr) (c0 c1 c2 c3 c4 : Nat) (k L G : Int) (w : World)
    (h0 : (Kd.slice 3 (Kd.int .i64)).C w A0 f0.length f0) (h1 : (Kd.slice 3 (Kd.int .i64)).C w A1 f1.length f1) (h2 : (Kd.slice 3 (Kd.int .i64)).C w A2 f2.length f2) (h3 : (Kd.int .i64).C w A3 f3.length f3) (h4 : k60.C w A4 f4.length f4)
    (hc0 : f0.length ≤ c0) (hc1 : f1.length ≤ c1) (hc2 : f2.length ≤ c2) (hc3 : f3.length ≤ c3) (hc4 : f4.length ≤ c4) :
    Calls Try.prog 34 #[.agg #[.slice A0 f0.length c0, .slice A1 f1.length c1, .slice A2 f2.length c2, .slice A3 f3.length c3, .slice A4 f4.length c4], .int .i64 k, .int .i64 L, .int .i64 G] w fun e w' => e = .returned (.int .i64 (ruleP ⟨f0, f1, f2, f3, f4⟩ k L G)) ∧ Below w.heap.size w w' := by
  have hmf : ∀ (fn : Fn) (first cap : Array Value) (w : World), (Instr.makeFunc fn first cap).run Try.prog w = .ok (.func fn first cap) w := fun _ _ _ _ => rfl
  have H0 := Aside0.mk h0
  have H1 := Aside0.mk h1
  have H2 := Aside0.mk h2
  have H3 := Aside0.mk h3
  have H4 := Aside0.mk h4
  have D0 := Aside0.mk hc0
  have D1 := Aside0.mk hc1
  have D2 := Aside0.mk hc2
  have D3 := Aside0.mk hc3
  have D4 := Aside0.mk hc4
  have HO := Own.start w
  clear h0 h1 h2 h3 h4 hc0 hc1 hc2 hc3 hc4
  go_enter Try.func34, Try.ntmps34
  by_cases a1 : f1.length = 0
  case pos =>
    have ea1 : ((f1.length : Int) == 0) = true := beq_iff_eq.mpr (by omega)
    have HV : Aside0 (ruleP ⟨f0, f1, f2, f3, f4⟩ k L G = 31) := ⟨by unfold ruleP; dsimp only; rw [if_pos (by omega)]⟩
    clear a1
    go_wp2_with (first
      | ((with_reducible refine gate_dst (N := 4) rfl ?_); refine ev_box (N := 4) (cs := #[.slice A0 f0.length c0, .slice A1 f1.length c1, .slice A2 f2.length c2, .slice A3 f3.length c3, .slice A4 f4.length c4]) (t := 49) HO rfl rfl ?hr ?_; (case hr => first | (go_simp; done) | (go_simp; rfl)); intro g4 W4 HO4 hb4; clear HO hb4; have z0 := HO4.box_cell 0 rfl 0 rfl; have z1 := HO4.box_cell 0 rfl 1 rfl; have z2 := HO4.box_cell 0 rfl 2 rfl; have z3 := HO4.box_cell 0 rfl 3 rfl; have z4 := HO4.box_cell 0 rfl 4 rfl)
      | ((with_reducible refine gate_dst (N := 5) rfl ?_); refine ev_box (N := 5) (cs := #[.int .i64 k]) (t := 3) HO4 rfl rfl ?hr ?_; (case hr => first | (go_simp; done) | (go_simp; rfl)); intro g5 W5 HO5 hb5; clear HO4 hb5; clear z0 z1 z2 z3 z4; have z0 := HO5.box_cell 0 rfl 0 rfl; have z1 := HO5.box_cell 0 rfl 1 rfl; have z2 := HO5.box_cell 0 rfl 2 rfl; have z3 := HO5.box_cell 0 rfl 3 rfl; have z4 := HO5.box_cell 0 rfl 4 rfl)
      | ((with_reducible refine gate_dst (N := 6) rfl ?_); refine ev_box (N := 6) (cs := #[.int .i64 L]) (t := 3) HO5 rfl rfl ?hr ?_; (case hr => first | (go_simp; done) | (go_simp; rfl)); intro g6 W6 HO6 hb6; clear HO5 hb6; clear z0 z1 z2 z3 z4; have z0 := HO6.box_cell 0 rfl 0 rfl; have z1 := HO6.box_cell 0 rfl 1 rfl; have z2 := HO6.box_cell 0 rfl 2 rfl; have z3 := HO6.box_cell 0 rfl 3 rfl; have z4 := HO6.box_cell 0 rfl 4 rfl)
      | ((with_reducible refine gate_dst (N := 7) rfl ?_); refine ev_box (N := 7) (cs := #[.int .i64 G]) (t := 3) HO6 rfl rfl ?hr ?_; (case hr => first | (go_simp; done) | (go_simp; rfl)); intro g7 W7 HO7 hb7; clear HO6 hb7; clear z0 z1 z2 z3 z4; have z0 := HO7.box_cell 0 rfl 0 rfl; have z1 := HO7.box_cell 0 rfl 1 rfl; have z2 := HO7.box_cell 0 rfl 2 rfl; have z3 := HO7.box_cell 0 rfl 3 rfl; have z4 := HO7.box_cell 0 rfl 4 rfl))
    go_ret
    exact ⟨by rw [HV.out]; rfl, HO7.below⟩
  case neg =>
    have ea1 : ((f1.length : Int) == 0) = false := beq_eq_false_iff_ne.mpr (by omega)
    by_cases a2 : f1.length > 4
    case pos =>
      have ea2 : ((f1.length : Int) > 4) = True := eq_true (by omega)
      have da2 : decide ((f1.length : Int) > 4) = true := decide_eq_true (by omega)
      have HV : Aside0 (ruleP ⟨f0, f1, f2, f3, f4⟩ k L G = 31) := ⟨by unfold ruleP; dsimp only; rw [if_pos (by omega)]⟩
      clear a1 a2
      go_wp2_with (first
        | ((with_reducible refine gate_dst (N := 4) rfl ?_); refine ev_box (N := 4) (cs := #[.slice A0 f0.length c0, .slice A1 f1.length c1, .slice A2 f2.length c2, .slice A3 f3.length c3, .slice A4 f4.length c4]) (t := 49) HO rfl rfl ?hr ?_; (case hr => first | (go_simp; done) | (go_simp; rfl)); intro g4 W4 HO4 hb4; clear HO hb4; have z0 := HO4.box_cell 0 rfl 0 rfl; have z1 := HO4.box_cell 0 rfl 1 rfl; have z2 := HO4.box_cell 0 rfl 2 rfl; have z3 := HO4.box_cell 0 rfl 3 rfl; have z4 := HO4.box_cell 0 rfl 4 rfl)
        | ((with_reducible refine gate_dst (N := 5) rfl ?_); refine ev_box (N := 5) (cs := #[.int .i64 k]) (t := 3) HO4 rfl rfl ?hr ?_; (case hr => first | (go_simp; done) | (go_simp; rfl)); intro g5 W5 HO5 hb5; clear HO4 hb5; clear z0 z1 z2 z3 z4; have z0 := HO5.box_cell 0 rfl 0 rfl; have z1 := HO5.box_cell 0 rfl 1 rfl; have z2 := HO5.box_cell 0 rfl 2 rfl; have z3 := HO5.box_cell 0 rfl 3 rfl; have z4 := HO5.box_cell 0 rfl 4 rfl)
        | ((with_reducible refine gate_dst (N := 6) rfl ?_); refine ev_box (N := 6) (cs := #[.int .i64 L]) (t := 3) HO5 rfl rfl ?hr ?_; (case hr => first | (go_simp; done) | (go_simp; rfl)); intro g6 W6 HO6 hb6; clear HO5 hb6; clear z0 z1 z2 z3 z4; have z0 := HO6.box_cell 0 rfl 0 rfl; have z1 := HO6.box_cell 0 rfl 1 rfl; have z2 := HO6.box_cell 0 rfl 2 rfl; have z3 := HO6.box_cell 0 rfl 3 rfl; have z4 := HO6.box_cell 0 rfl 4 rfl)
        | ((with_reducible refine gate_dst (N := 7) rfl ?_); refine ev_box (N := 7) (cs := #[.int .i64 G]) (t := 3) HO6 rfl rfl ?hr ?_; (case hr => first | (go_simp; done) | (go_simp; rfl)); intro g7 W7 HO7 hb7; clear HO6 hb7; clear z0 z1 z2 z3 z4; have z0 := HO7.box_cell 0 rfl 0 rfl; have z1 := HO7.box_cell 0 rfl 1 rfl; have z2 := HO7.box_cell 0 rfl 2 rfl; have z3 := HO7.box_cell 0 rfl 3 rfl; have z4 := HO7.box_cell 0 rfl 4 rfl))
      go_ret
      exact ⟨by rw [HV.out]; rfl, HO7.below⟩
    case neg =>
      have ea2 : ((f1.length : Int) > 4) = False := eq_false (by omega)
      have da2 : decide ((f1.length : Int) > 4) = false := decide_eq_false (by omega)
      by_cases a3 : f0.length > 3
      case pos =>
        have ea3 : ((f0.length : Int) > 3) = True := eq_true (by omega)
        have da3 : decide ((f0.length : Int) > 3) = true := decide_eq_true (by omega)
        have HV : Aside0 (ruleP ⟨f0, f1, f2, f3, f4⟩ k L G = 31) := ⟨by unfold ruleP; dsimp only; rw [if_pos (by omega)]⟩
        clear a1 a2 a3
        go_wp2_with (first
          | ((with_reducible refine gate_dst (N := 4) rfl ?_); refine ev_box (N := 4) (cs := #[.slice A0 f0.length c0, .slice A1 f1.length c1, .slice A2 f2.length c2, .slice A3 f3.length c3, .slice A4 f4.length c4]) (t := 49) HO rfl rfl ?hr ?_; (case hr => first | (go_simp; done) | (go_simp; rfl)); intro g4 W4 HO4 hb4; clear HO hb4; have z0 := HO4.box_cell 0 rfl 0 rfl; have z1 := HO4.box_cell 0 rfl 1 rfl; have z2 := HO4.box_cell 0 rfl 2 rfl; have z3 := HO4.box_cell 0 rfl 3 rfl; have z4 := HO4.box_cell 0 rfl 4 rfl)
          | ((with_reducible refine gate_dst (N := 5) rfl ?_); refine ev_box (N := 5) (cs := #[.int .i64 k]) (t := 3) HO4 rfl rfl ?hr ?_; (case hr => first | (go_simp; done) | (go_simp; rfl)); intro g5 W5 HO5 hb5; clear HO4 hb5; clear z0 z1 z2 z3 z4; have z0 := HO5.box_cell 0 rfl 0 rfl; have z1 := HO5.box_cell 0 rfl 1 rfl; have z2 := HO5.box_cell 0 rfl 2 rfl; have z3 := HO5.box_cell 0 rfl 3 rfl; have z4 := HO5.box_cell 0 rfl 4 rfl)
          | ((with_reducible refine gate_dst (N := 6) rfl ?_); refine ev_box (N := 6) (cs := #[.int .i64 L]) (t := 3) HO5 rfl rfl ?hr ?_; (case hr => first | (go_simp; done) | (go_simp; rfl)); intro g6 W6 HO6 hb6; clear HO5 hb6; clear z0 z1 z2 z3 z4; have z0 := HO6.box_cell 0 rfl 0 rfl; have z1 := HO6.box_cell 0 rfl 1 rfl; have z2 := HO6.box_cell 0 rfl 2 rfl; have z3 := HO6.box_cell 0 rfl 3 rfl; have z4 := HO6.box_cell 0 rfl 4 rfl)
          | ((with_reducible refine gate_dst (N := 7) rfl ?_); refine ev_box (N := 7) (cs := #[.int .i64 G]) (t := 3) HO6 rfl rfl ?hr ?_; (case hr => first | (go_simp; done) | (go_simp; rfl)); intro g7 W7 HO7 hb7; clear HO6 hb7; clear z0 z1 z2 z3 z4; have z0 := HO7.box_cell 0 rfl 0 rfl; have z1 := HO7.box_cell 0 rfl 1 rfl; have z2 := HO7.box_cell 0 rfl 2 rfl; have z3 := HO7.box_cell 0 rfl 3 rfl; have z4 := HO7.box_cell 0 rfl 4 rfl))
        go_ret
        exact ⟨by rw [HV.out]; rfl, HO7.below⟩
      case neg =>
        have ea3 : ((f0.length : Int) > 3) = False := eq_false (by omega)
        have da3 : decide ((f0.length : Int) > 3) = false := decide_eq_false (by omega)
        by_cases a4 : f2.length > 3
        case pos =>
          have ea4 : ((f2.length : Int) > 3) = True := eq_true (by omega)
          have da4 : decide ((f2.length : Int) > 3) = true := decide_eq_true (by omega)
          have HV : Aside0 (ruleP ⟨f0, f1, f2, f3, f4⟩ k L G = 31) := ⟨by unfold ruleP; dsimp only; rw [if_pos (by omega)]⟩
          clear a1 a2 a3 a4
          go_wp2_with (first
            | ((with_reducible refine gate_dst (N := 4) rfl ?_); refine ev_box (N := 4) (cs := #[.slice A0 f0.length c0, .slice A1 f1.length c1, .slice A2 f2.length c2, .slice A3 f3.length c3, .slice A4 f4.length c4]) (t := 49) HO rfl rfl ?hr ?_; (case hr => first | (go_simp; done) | (go_simp; rfl)); intro g4 W4 HO4 hb4; clear HO hb4; have z0 := HO4.box_cell 0 rfl 0 rfl; have z1 := HO4.box_cell 0 rfl 1 rfl; have z2 := HO4.box_cell 0 rfl 2 rfl; have z3 := HO4.box_cell 0 rfl 3 rfl; have z4 := HO4.box_cell 0 rfl 4 rfl)
            | ((with_reducible refine gate_dst (N := 5) rfl ?_); refine ev_box (N := 5) (cs := #[.int .i64 k]) (t := 3) HO4 rfl rfl ?hr ?_; (case hr => first | (go_simp; done) | (go_simp; rfl)); intro g5 W5 HO5 hb5; clear HO4 hb5; clear z0 z1 z2 z3 z4; have z0 := HO5.box_cell 0 rfl 0 rfl; have z1 := HO5.box_cell 0 rfl 1 rfl; have z2 := HO5.box_cell 0 rfl 2 rfl; have z3 := HO5.box_cell 0 rfl 3 rfl; have z4 := HO5.box_cell 0 rfl 4 rfl)
            | ((with_reducible refine gate_dst (N := 6) rfl ?_); refine ev_box (N := 6) (cs := #[.int .i64 L]) (t := 3) HO5 rfl rfl ?hr ?_; (case hr => first | (go_simp; done) | (go_simp; rfl)); intro g6 W6 HO6 hb6; clear HO5 hb6; clear z0 z1 z2 z3 z4; have z0 := HO6.box_cell 0 rfl 0 rfl; have z1 := HO6.box_cell 0 rfl 1 rfl; have z2 := HO6.box_cell 0 rfl 2 rfl; have z3 := HO6.box_cell 0 rfl 3 rfl; have z4 := HO6.box_cell 0 rfl 4 rfl)
            | ((with_reducible refine gate_dst (N := 7) rfl ?_); refine ev_box (N := 7) (cs := #[.int .i64 G]) (t := 3) HO6 rfl rfl ?hr ?_; (case hr => first | (go_simp; done) | (go_simp; rfl)); intro g7 W7 HO7 hb7; clear HO6 hb7; clear z0 z1 z2 z3 z4; have z0 := HO7.box_cell 0 rfl 0 rfl; have z1 := HO7.box_cell 0 rfl 1 rfl; have z2 := HO7.box_cell 0 rfl 2 rfl; have z3 := HO7.box_cell 0 rfl 3 rfl; have z4 := HO7.box_cell 0 rfl 4 rfl))
          go_ret
          exact ⟨by rw [HV.out]; rfl, HO7.below⟩
        case neg =>
          have ea4 : ((f2.length : Int) > 3) = False := eq_false (by omega)
          have da4 : decide ((f2.length : Int) > 3) = false := decide_eq_false (by omega)
          by_cases b1 : f3.length > 4
          case pos =>
            have eb1 : ((f3.length : Int) > 4) = True := eq_true (by omega)
            have db1 : decide ((f3.length : Int) > 4) = true := decide_eq_true (by omega)
            have HV : Aside0 (ruleP ⟨f0, f1, f2, f3, f4⟩ k L G = 31) := ⟨by unfold ruleP; dsimp only; rw [if_neg (by omega), if_pos (by omega)]⟩
            clear a1 a2 a3 a4 b1
            go_wp2_with (first
              | ((with_reducible refine gate_dst (N := 4) rfl ?_); refine ev_box (N := 4) (cs := #[.slice A0 f0.length c0, .slice A1 f1.length c1, .slice A2 f2.length c2, .slice A3 f3.length c3, .slice A4 f4.length c4]) (t := 49) HO rfl rfl ?hr ?_; (case hr => first | (go_simp; done) | (go_simp; rfl)); intro g4 W4 HO4 hb4; clear HO hb4; have z0 := HO4.box_cell 0 rfl 0 rfl; have z1 := HO4.box_cell 0 rfl 1 rfl; have z2 := HO4.box_cell 0 rfl 2 rfl; have z3 := HO4.box_cell 0 rfl 3 rfl; have z4 := HO4.box_cell 0 rfl 4 rfl)
              | ((with_reducible refine gate_dst (N := 5) rfl ?_); refine ev_box (N := 5) (cs := #[.int .i64 k]) (t := 3) HO4 rfl rfl ?hr ?_; (case hr => first | (go_simp; done) | (go_simp; rfl)); intro g5 W5 HO5 hb5; clear HO4 hb5; clear z0 z1 z2 z3 z4; have z0 := HO5.box_cell 0 rfl 0 rfl; have z1 := HO5.box_cell 0 rfl 1 rfl; have z2 := HO5.box_cell 0 rfl 2 rfl; have z3 := HO5.box_cell 0 rfl 3 rfl; have z4 := HO5.box_cell 0 rfl 4 rfl)
              | ((with_reducible refine gate_dst (N := 6) rfl ?_); refine ev_box (N := 6) (cs := #[.int .i64 L]) (t := 3) HO5 rfl rfl ?hr ?_; (case hr => first | (go_simp; done) | (go_simp; rfl)); intro g6 W6 HO6 hb6; clear HO5 hb6; clear z0 z1 z2 z3 z4; have z0 := HO6.box_cell 0 rfl 0 rfl; have z1 := HO6.box_cell 0 rfl 1 rfl; have z2 := HO6.box_cell 0 rfl 2 rfl; have z3 := HO6.box_cell 0 rfl 3 rfl; have z4 := HO6.box_cell 0 rfl 4 rfl)
              | ((with_reducible refine gate_dst (N := 7) rfl ?_); refine ev_box (N := 7) (cs := #[.int .i64 G]) (t := 3) HO6 rfl rfl ?hr ?_; (case hr => first | (go_simp; done) | (go_simp; rfl)); intro g7 W7 HO7 hb7; clear HO6 hb7; clear z0 z1 z2 z3 z4; have z0 := HO7.box_cell 0 rfl 0 rfl; have z1 := HO7.box_cell 0 rfl 1 rfl; have z2 := HO7.box_cell 0 rfl 2 rfl; have z3 := HO7.box_cell 0 rfl 3 rfl; have z4 := HO7.box_cell 0 rfl 4 rfl))
            go_ret
            exact ⟨by rw [HV.out]; rfl, HO7.below⟩
          case neg =>
            have eb1 : ((f3.length : Int) > 4) = False := eq_false (by omega)
            have db1 : decide ((f3.length : Int) > 4) = false := decide_eq_false (by omega)
            by_cases b2 : f4.length > 3
            case pos =>
              have eb2 : ((f4.length : Int) > 3) = True := eq_true (by omega)
              have db2 : decide ((f4.length : Int) > 3) = true := decide_eq_true (by omega)
              have HV : Aside0 (ruleP ⟨f0, f1, f2, f3, f4⟩ k L G = 31) := ⟨by unfold ruleP; dsimp only; rw [if_neg (by omega), if_pos (by omega)]⟩
              clear a1 a2 a3 a4 b1 b2
              go_wp2_with (first
                | ((with_reducible refine gate_dst (N := 4) rfl ?_); refine ev_box (N := 4) (cs := #[.slice A0 f0.length c0, .slice A1 f1.length c1, .slice A2 f2.length c2, .slice A3 f3.length c3, .slice A4 f4.length c4]) (t := 49) HO rfl rfl ?hr ?_; (case hr => first | (go_simp; done) | (go_simp; rfl)); intro g4 W4 HO4 hb4; clear HO hb4; have z0 := HO4.box_cell 0 rfl 0 rfl; have z1 := HO4.box_cell 0 rfl 1 rfl; have z2 := HO4.box_cell 0 rfl 2 rfl; have z3 := HO4.box_cell 0 rfl 3 rfl; have z4 := HO4.box_cell 0 rfl 4 rfl)
                | ((with_reducible refine gate_dst (N := 5) rfl ?_); refine ev_box (N := 5) (cs := #[.int .i64 k]) (t := 3) HO4 rfl rfl ?hr ?_; (case hr => first | (go_simp; done) | (go_simp; rfl)); intro g5 W5 HO5 hb5; clear HO4 hb5; clear z0 z1 z2 z3 z4; have z0 := HO5.box_cell 0 rfl 0 rfl; have z1 := HO5.box_cell 0 rfl 1 rfl; have z2 := HO5.box_cell 0 rfl 2 rfl; have z3 := HO5.box_cell 0 rfl 3 rfl; have z4 := HO5.box_cell 0 rfl 4 rfl)
                | ((with_reducible refine gate_dst (N := 6) rfl ?_); refine ev_box (N := 6) (cs := #[.int .i64 L]) (t := 3) HO5 rfl rfl ?hr ?_; (case hr => first | (go_simp; done) | (go_simp; rfl)); intro g6 W6 HO6 hb6; clear HO5 hb6; clear z0 z1 z2 z3 z4; have z0 := HO6.box_cell 0 rfl 0 rfl; have z1 := HO6.box_cell 0 rfl 1 rfl; have z2 := HO6.box_cell 0 rfl 2 rfl; have z3 := HO6.box_cell 0 rfl 3 rfl; have z4 := HO6.box_cell 0 rfl 4 rfl)
                | ((with_reducible refine gate_dst (N := 7) rfl ?_); refine ev_box (N := 7) (cs := #[.int .i64 G]) (t := 3) HO6 rfl rfl ?hr ?_; (case hr => first | (go_simp; done) | (go_simp; rfl)); intro g7 W7 HO7 hb7; clear HO6 hb7; clear z0 z1 z2 z3 z4; have z0 := HO7.box_cell 0 rfl 0 rfl; have z1 := HO7.box_cell 0 rfl 1 rfl; have z2 := HO7.box_cell 0 rfl 2 rfl; have z3 := HO7.box_cell 0 rfl 3 rfl; have z4 := HO7.box_cell 0 rfl 4 rfl))
              go_ret
              exact ⟨by rw [HV.out]; rfl, HO7.below⟩
            case neg =>
              have eb2 : ((f4.length : Int) > 3) = False := eq_false (by omega)
              have db2 : decide ((f4.length : Int) > 3) = false := decide_eq_false (by omega)
              by_cases b3 : f3.length > 0
              case pos =>
                have eb3 : ((f3.length : Int) > 0) = True := eq_true (by omega)
                have db3 : decide ((f3.length : Int) > 0) = true := decide_eq_true (by omega)
                have pb3 : (0 < f3.length) = True := eq_true (by omega)
                have qb3 : decide (0 < f3.length) = true := decide_eq_true (by omega)
                have nb3 : (f3 = []) = False := eq_false (by intro h; rw [h] at b3; exact absurd b3 (Nat.lt_irrefl _))
                by_cases b4 : f4.length > 0
                case pos =>
                  have eb4 : ((f4.length : Int) > 0) = True := eq_true (by omega)
                  have db4 : decide ((f4.length : Int) > 0) = true := decide_eq_true (by omega)
                  have pb4 : (0 < f4.length) = True := eq_true (by omega)
                  have qb4 : decide (0 < f4.length) = true := decide_eq_true (by omega)
                  have nb4 : (f4 = []) = False := eq_false (by intro h; rw [h] at b4; exact absurd b4 (Nat.lt_irrefl _))
                  have HV : Aside0 (ruleP ⟨f0, f1, f2, f3, f4⟩ k L G = 31) := ⟨by unfold ruleP; dsimp only; rw [if_neg (by omega), if_pos (by omega)]⟩
                  clear a1 a2 a3 a4 b1 b2 b3 b4
                  go_wp2_with (first
                    | ((with_reducible refine gate_dst (N := 4) rfl ?_); refine ev_box (N := 4) (cs := #[.slice A0 f0.length c0, .slice A1 f1.length c1, .slice A2 f2.length c2, .slice A3 f3.length c3, .slice A4 f4.length c4]) (t := 49) HO rfl rfl ?hr ?_; (case hr => first | (go_simp; done) | (go_simp; rfl)); intro g4 W4 HO4 hb4; clear HO hb4; have z0 := HO4.box_cell 0 rfl 0 rfl; have z1 := HO4.box_cell 0 rfl 1 rfl; have z2 := HO4.box_cell 0 rfl 2 rfl; have z3 := HO4.box_cell 0 rfl 3 rfl; have z4 := HO4.box_cell 0 rfl 4 rfl)
                    | ((with_reducible refine gate_dst (N := 5) rfl ?_); refine ev_box (N := 5) (cs := #[.int .i64 k]) (t := 3) HO4 rfl rfl ?hr ?_; (case hr => first | (go_simp; done) | (go_simp; rfl)); intro g5 W5 HO5 hb5; clear HO4 hb5; clear z0 z1 z2 z3 z4; have z0 := HO5.box_cell 0 rfl 0 rfl; have z1 := HO5.box_cell 0 rfl 1 rfl; have z2 := HO5.box_cell 0 rfl 2 rfl; have z3 := HO5.box_cell 0 rfl 3 rfl; have z4 := HO5.box_cell 0 rfl 4 rfl)
                    | ((with_reducible refine gate_dst (N := 6) rfl ?_); refine ev_box (N := 6) (cs := #[.int .i64 L]) (t := 3) HO5 rfl rfl ?hr ?_; (case hr => first | (go_simp; done) | (go_simp; rfl)); intro g6 W6 HO6 hb6; clear HO5 hb6; clear z0 z1 z2 z3 z4; have z0 := HO6.box_cell 0 rfl 0 rfl; have z1 := HO6.box_cell 0 rfl 1 rfl; have z2 := HO6.box_cell 0 rfl 2 rfl; have z3 := HO6.box_cell 0 rfl 3 rfl; have z4 := HO6.box_cell 0 rfl 4 rfl)
                    | ((with_reducible refine gate_dst (N := 7) rfl ?_); refine ev_box (N := 7) (cs := #[.int .i64 G]) (t := 3) HO6 rfl rfl ?hr ?_; (case hr => first | (go_simp; done) | (go_simp; rfl)); intro g7 W7 HO7 hb7; clear HO6 hb7; clear z0 z1 z2 z3 z4; have z0 := HO7.box_cell 0 rfl 0 rfl; have z1 := HO7.box_cell 0 rfl 1 rfl; have z2 := HO7.box_cell 0 rfl 2 rfl; have z3 := HO7.box_cell 0 rfl 3 rfl; have z4 := HO7.box_cell 0 rfl 4 rfl))
                  go_ret
                  exact ⟨by rw [HV.out]; rfl, HO7.below⟩
                case neg =>
                  have eb4 : ((f4.length : Int) > 0) = False := eq_false (by omega)
                  have db4 : decide ((f4.length : Int) > 0) = false := decide_eq_false (by omega)
                  have pb4 : (0 < f4.length) = False := eq_false (by omega)
                  have qb4 : decide (0 < f4.length) = false := decide_eq_false (by omega)
                  have nb4 : (f4 = []) = True := eq_true (List.eq_nil_of_length_eq_zero (by omega))
                  have HN0 := Aside0.mk (show f0.length ≤ 3 by omega)
                  have HN1 := Aside0.mk (show f1.length ≤ 4 by omega)
                  have HN2 := Aside0.mk (show f2.length ≤ 3 by omega)
                  have k1 := Aside0.mk (show ¬ (f1.length = 0 ∨ f1.length > 4 ∨ f0.length > 3 ∨ f2.length > 3) by omega)
                  have k2 := Aside0.mk (show ¬ (f3.length > 4 ∨ f4.length > 3 ∨ (f3.length > 0 ∧ f4.length > 0)) by omega)
                  obtain ⟨fl, hfl⟩ : ∃ fl, f1 ++ f0 ++ f2 = fl := ⟨_, rfl⟩
                  have HFL := Aside0.mk hfl
                  cases hw : fl.any wrongP
                  case true =>
                    have HW := Aside0.mk hw
                    have HV : Aside0 (ruleP ⟨f0, f1, f2, f3, f4⟩ k L G = 31) := ⟨by unfold ruleP; dsimp only; rw [if_neg k1.out, if_neg k2.out, hfl, if_pos hw]⟩
                    clear a1 a2 a3 a4 b1 b2 b3 b4 hfl hw
                    go_wp2_with (first
                      | ((with_reducible refine gate_dst (N := 4) rfl ?_); refine ev_box (N := 4) (cs := #[.slice A0 f0.length c0, .slice A1 f1.length c1, .slice A2 f2.length c2, .slice A3 f3.length c3, .slice A4 f4.length c4]) (t := 49) HO rfl rfl ?hr ?_; (case hr => first | (go_simp; done) | (go_simp; rfl)); intro g4 W4 HO4 hb4; clear HO hb4; have z0 := HO4.box_cell 0 rfl 0 rfl; have z1 := HO4.box_cell 0 rfl 1 rfl; have z2 := HO4.box_cell 0 rfl 2 rfl; have z3 := HO4.box_cell 0 rfl 3 rfl; have z4 := HO4.box_cell 0 rfl 4 rfl)
                      | ((with_reducible refine gate_dst (N := 5) rfl ?_); refine ev_box (N := 5) (cs := #[.int .i64 k]) (t := 3) HO4 rfl rfl ?hr ?_; (case hr => first | (go_simp; done) | (go_simp; rfl)); intro g5 W5 HO5 hb5; clear HO4 hb5; clear z0 z1 z2 z3 z4; have z0 := HO5.box_cell 0 rfl 0 rfl; have z1 := HO5.box_cell 0 rfl 1 rfl; have z2 := HO5.box_cell 0 rfl 2 rfl; have z3 := HO5.box_cell 0 rfl 3 rfl; have z4 := HO5.box_cell 0 rfl 4 rfl)
                      | ((with_reducible refine gate_dst (N := 6) rfl ?_); refine ev_box (N := 6) (cs := #[.int .i64 L]) (t := 3) HO5 rfl rfl ?hr ?_; (case hr => first | (go_simp; done) | (go_simp; rfl)); intro g6 W6 HO6 hb6; clear HO5 hb6; clear z0 z1 z2 z3 z4; have z0 := HO6.box_cell 0 rfl 0 rfl; have z1 := HO6.box_cell 0 rfl 1 rfl; have z2 := HO6.box_cell 0 rfl 2 rfl; have z3 := HO6.box_cell 0 rfl 3 rfl; have z4 := HO6.box_cell 0 rfl 4 rfl)
                      | ((with_reducible refine gate_dst (N := 7) rfl ?_); refine ev_box (N := 7) (cs := #[.int .i64 G]) (t := 3) HO6 rfl rfl ?hr ?_; (case hr => first | (go_simp; done) | (go_simp; rfl)); intro g7 W7 HO7 hb7; clear HO6 hb7; clear z0 z1 z2 z3 z4; have z0 := HO7.box_cell 0 rfl 0 rfl; have z1 := HO7.box_cell 0 rfl 1 rfl; have z2 := HO7.box_cell 0 rfl 2 rfl; have z3 := HO7.box_cell 0 rfl 3 rfl; have z4 := HO7.box_cell 0 rfl 4 rfl)
                      | (go_at_call 49; go_loud (refine (context_calls f0 f1 f2 A0 A1 A2 c0 c1 c2 _ _ rfl rfl _ (HO7.old H0.out) (HO7.old H1.out) (HO7.old H2.out) D0.out D1.out D2.out (by have := HN0.out; omega) (by have := HN1.out; omega) (by have := HN2.out; omega)).mono ?_; rintro e W8 ⟨Ac, cc, rfl, hCc, hb⟩; rw [HFL.out] at hCc ⊢; have HO8 := HO7.grow hb; clear HO7 hb; clear z0 z1 z2 z3 z4; have z0 := HO8.box_cell 0 rfl 0 rfl; have z1 := HO8.box_cell 0 rfl 1 rfl; have z2 := HO8.box_cell 0 rfl 2 rfl; have z3 := HO8.box_cell 0 rfl 3 rfl; have z4 := HO8.box_cell 0 rfl 4 rfl))
                      | (go_at_call 48; refine (conL wrongP 50 #[] (enters_ (P := Try.prog) Try.func50 (by kernel_rfl) rfl) Ac cc fl _ hCc (fun x hx A' c' W hb hc hC => (rules_wrongSet.calls _ A' c' x _ W hC hc (Ev.rounds (wrong_ev x (Kd.C_max hC))).choose_spec).mono (fun e w' h => ⟨h.1, h.2.below⟩))).mono ?_; rintro e W9 ⟨rfl, hb⟩; rw [HW.out]; have HO9 := HO8.grow hb; clear HO8 hb hCc; clear z0 z1 z2 z3 z4; have z0 := HO9.box_cell 0 rfl 0 rfl; have z1 := HO9.box_cell 0 rfl 1 rfl; have z2 := HO9.box_cell 0 rfl 2 rfl; have z3 := HO9.box_cell 0 rfl 3 rfl; have z4 := HO9.box_cell 0 rfl 4 rfl))
                    go_ret
                    exact ⟨by rw [HV.out]; rfl, HO9.below⟩
                  case false =>
                    have HW := Aside0.mk hw
                    cases hu : fl.any (fun l => l.any (unkP G))
                    case true =>
                      have HU := Aside0.mk hu
                      have HV : Aside0 (ruleP ⟨f0, f1, f2, f3, f4⟩ k L G = 30) := ⟨by unfold ruleP; dsimp only; rw [if_neg k1.out, if_neg k2.out, hfl, if_neg (by rw [hw]; decide), if_pos (.inl hu)]⟩
                      clear a1 a2 a3 a4 b1 b2 b3 b4 hfl hw hu
                      go_wp2_with (first
                        | ((with_reducible refine gate_dst (N := 4) rfl ?_); refine ev_box (N := 4) (cs := #[.slice A0 f0.length c0, .slice A1 f1.length c1, .slice A2 f2.length c2, .slice A3 f3.length c3, .slice A4 f4.length c4]) (t := 49) HO rfl rfl ?hr ?_; (case hr => first | (go_simp; done) | (go_simp; rfl)); intro g4 W4 HO4 hb4; clear HO hb4; have z0 := HO4.box_cell 0 rfl 0 rfl; have z1 := HO4.box_cell 0 rfl 1 rfl; have z2 := HO4.box_cell 0 rfl 2 rfl; have z3 := HO4.box_cell 0 rfl 3 rfl; have z4 := HO4.box_cell 0 rfl 4 rfl)
                        | ((with_reducible refine gate_dst (N := 5) rfl ?_); refine ev_box (N := 5) (cs := #[.int .i64 k]) (t := 3) HO4 rfl rfl ?hr ?_; (case hr => first | (go_simp; done) | (go_simp; rfl)); intro g5 W5 HO5 hb5; clear HO4 hb5; clear z0 z1 z2 z3 z4; have z0 := HO5.box_cell 0 rfl 0 rfl; have z1 := HO5.box_cell 0 rfl 1 rfl; have z2 := HO5.box_cell 0 rfl 2 rfl; have z3 := HO5.box_cell 0 rfl 3 rfl; have z4 := HO5.box_cell 0 rfl 4 rfl)
                        | ((with_reducible refine gate_dst (N := 6) rfl ?_); refine ev_box (N := 6) (cs := #[.int .i64 L]) (t := 3) HO5 rfl rfl ?hr ?_; (case hr => first | (go_simp; done) | (go_simp; rfl)); intro g6 W6 HO6 hb6; clear HO5 hb6; clear z0 z1 z2 z3 z4; have z0 := HO6.box_cell 0 rfl 0 rfl; have z1 := HO6.box_cell 0 rfl 1 rfl; have z2 := HO6.box_cell 0 rfl 2 rfl; have z3 := HO6.box_cell 0 rfl 3 rfl; have z4 := HO6.box_cell 0 rfl 4 rfl)
                        | ((with_reducible refine gate_dst (N := 7) rfl ?_); refine ev_box (N := 7) (cs := #[.int .i64 G]) (t := 3) HO6 rfl rfl ?hr ?_; (case hr => first | (go_simp; done) | (go_simp; rfl)); intro g7 W7 HO7 hb7; clear HO6 hb7; clear z0 z1 z2 z3 z4; have z0 := HO7.box_cell 0 rfl 0 rfl; have z1 := HO7.box_cell 0 rfl 1 rfl; have z2 := HO7.box_cell 0 rfl 2 rfl; have z3 := HO7.box_cell 0 rfl 3 rfl; have z4 := HO7.box_cell 0 rfl 4 rfl)
                        | (go_at_call 49; go_loud (refine (context_calls f0 f1 f2 A0 A1 A2 c0 c1 c2 _ _ rfl rfl _ (HO7.old H0.out) (HO7.old H1.out) (HO7.old H2.out) D0.out D1.out D2.out (by have := HN0.out; omega) (by have := HN1.out; omega) (by have := HN2.out; omega)).mono ?_; rintro e W8 ⟨Ac, cc, rfl, hCc, hb⟩; rw [HFL.out] at hCc ⊢; have HO8 := HO7.grow hb; clear HO7 hb; clear z0 z1 z2 z3 z4; have z0 := HO8.box_cell 0 rfl 0 rfl; have z1 := HO8.box_cell 0 rfl 1 rfl; have z2 := HO8.box_cell 0 rfl 2 rfl; have z3 := HO8.box_cell 0 rfl 3 rfl; have z4 := HO8.box_cell 0 rfl 4 rfl))
                        | (go_at_call 48; refine (conL wrongP 50 #[] (enters_ (P := Try.prog) Try.func50 (by kernel_rfl) rfl) Ac cc fl _ hCc (fun x hx A' c' W hb hc hC => (rules_wrongSet.calls _ A' c' x _ W hC hc (Ev.rounds (wrong_ev x (Kd.C_max hC))).choose_spec).mono (fun e w' h => ⟨h.1, h.2.below⟩))).mono ?_; rintro e W9 ⟨rfl, hb⟩; rw [HW.out]; have HO9 := HO8.grow hb; clear HO8 hb hCc; clear z0 z1 z2 z3 z4; have z0 := HO9.box_cell 0 rfl 0 rfl; have z1 := HO9.box_cell 0 rfl 1 rfl; have z2 := HO9.box_cell 0 rfl 2 rfl; have z3 := HO9.box_cell 0 rfl 3 rfl; have z4 := HO9.box_cell 0 rfl 4 rfl)
                        | (go_at_call 49; go_loud (refine (context_calls f0 f1 f2 A0 A1 A2 c0 c1 c2 _ _ rfl rfl _ (HO9.old H0.out) (HO9.old H1.out) (HO9.old H2.out) D0.out D1.out D2.out (by have := HN0.out; omega) (by have := HN1.out; omega) (by have := HN2.out; omega)).mono ?_; rintro e W10 ⟨Ac, cc, rfl, hCc, hb⟩; rw [HFL.out] at hCc ⊢; have HO10 := HO9.grow hb; clear HO9 hb; clear z0 z1 z2 z3 z4; have z0 := HO10.box_cell 0 rfl 0 rfl; have z1 := HO10.box_cell 0 rfl 1 rfl; have z2 := HO10.box_cell 0 rfl 2 rfl; have z3 := HO10.box_cell 0 rfl 3 rfl; have z4 := HO10.box_cell 0 rfl 4 rfl))
                        | (go_at_call 48; refine (conL (fun l => l.any (unkP G)) 44 #[.pointer (some ⟨g7, 0, none⟩)] (enters_ (P := Try.prog) Try.func44 (by kernel_rfl) rfl) Ac cc fl _ hCc (fun x hx A' c' W hb hc hC => unknown_calls G g7 A' c' x W hC (box_below (HO10.box_at 3 rfl).1 hb))).mono ?_; rintro e W11 ⟨rfl, hb⟩; rw [HU.out]; have HO11 := HO10.grow hb; clear HO10 hb hCc; clear z0 z1 z2 z3 z4; have z0 := HO11.box_cell 0 rfl 0 rfl; have z1 := HO11.box_cell 0 rfl 1 rfl; have z2 := HO11.box_cell 0 rfl 2 rfl; have z3 := HO11.box_cell 0 rfl 3 rfl; have z4 := HO11.box_cell 0 rfl 4 rfl))
                      go_ret
                      exact ⟨by rw [HV.out]; rfl, HO11.below⟩
                    case false =>
                      have HU := Aside0.mk hu
                      cases hv : f3.any (unkP G)
                      case true =>
                        have HV3 := Aside0.mk hv
                        have HV : Aside0 (ruleP ⟨f0, f1, f2, f3, f4⟩ k L G = 30) := ⟨by unfold ruleP; dsimp only; rw [if_neg k1.out, if_neg k2.out, hfl, if_neg (by rw [hw]; decide), if_pos (.inr hv)]⟩
                        clear a1 a2 a3 a4 b1 b2 b3 b4 hfl hw hu hv
                        go_wp2_with (first
                          | ((with_reducible refine gate_dst (N := 4) rfl ?_); refine ev_box (N := 4) (cs := #[.slice A0 f0.length c0, .slice A1 f1.length c1, .slice A2 f2.length c2, .slice A3 f3.length c3, .slice A4 f4.length c4]) (t := 49) HO rfl rfl ?hr ?_; (case hr => first | (go_simp; done) | (go_simp; rfl)); intro g4 W4 HO4 hb4; clear HO hb4; have z0 := HO4.box_cell 0 rfl 0 rfl; have z1 := HO4.box_cell 0 rfl 1 rfl; have z2 := HO4.box_cell 0 rfl 2 rfl; have z3 := HO4.box_cell 0 rfl 3 rfl; have z4 := HO4.box_cell 0 rfl 4 rfl)
                          | ((with_reducible refine gate_dst (N := 5) rfl ?_); refine ev_box (N := 5) (cs := #[.int .i64 k]) (t := 3) HO4 rfl rfl ?hr ?_; (case hr => first | (go_simp; done) | (go_simp; rfl)); intro g5 W5 HO5 hb5; clear HO4 hb5; clear z0 z1 z2 z3 z4; have z0 := HO5.box_cell 0 rfl 0 rfl; have z1 := HO5.box_cell 0 rfl 1 rfl; have z2 := HO5.box_cell 0 rfl 2 rfl; have z3 := HO5.box_cell 0 rfl 3 rfl; have z4 := HO5.box_cell 0 rfl 4 rfl)
                          | ((with_reducible refine gate_dst (N := 6) rfl ?_); refine ev_box (N := 6) (cs := #[.int .i64 L]) (t := 3) HO5 rfl rfl ?hr ?_; (case hr => first | (go_simp; done) | (go_simp; rfl)); intro g6 W6 HO6 hb6; clear HO5 hb6; clear z0 z1 z2 z3 z4; have z0 := HO6.box_cell 0 rfl 0 rfl; have z1 := HO6.box_cell 0 rfl 1 rfl; have z2 := HO6.box_cell 0 rfl 2 rfl; have z3 := HO6.box_cell 0 rfl 3 rfl; have z4 := HO6.box_cell 0 rfl 4 rfl)
                          | ((with_reducible refine gate_dst (N := 7) rfl ?_); refine ev_box (N := 7) (cs := #[.int .i64 G]) (t := 3) HO6 rfl rfl ?hr ?_; (case hr => first | (go_simp; done) | (go_simp; rfl)); intro g7 W7 HO7 hb7; clear HO6 hb7; clear z0 z1 z2 z3 z4; have z0 := HO7.box_cell 0 rfl 0 rfl; have z1 := HO7.box_cell 0 rfl 1 rfl; have z2 := HO7.box_cell 0 rfl 2 rfl; have z3 := HO7.box_cell 0 rfl 3 rfl; have z4 := HO7.box_cell 0 rfl 4 rfl)
                          | (go_at_call 49; go_loud (refine (context_calls f0 f1 f2 A0 A1 A2 c0 c1 c2 _ _ rfl rfl _ (HO7.old H0.out) (HO7.old H1.out) (HO7.old H2.out) D0.out D1.out D2.out (by have := HN0.out; omega) (by have := HN1.out; omega) (by have := HN2.out; omega)).mono ?_; rintro e W8 ⟨Ac, cc, rfl, hCc, hb⟩; rw [HFL.out] at hCc ⊢; have HO8 := HO7.grow hb; clear HO7 hb; clear z0 z1 z2 z3 z4; have z0 := HO8.box_cell 0 rfl 0 rfl; have z1 := HO8.box_cell 0 rfl 1 rfl; have z2 := HO8.box_cell 0 rfl 2 rfl; have z3 := HO8.box_cell 0 rfl 3 rfl; have z4 := HO8.box_cell 0 rfl 4 rfl))
                          | (go_at_call 48; refine (conL wrongP 50 #[] (enters_ (P := Try.prog) Try.func50 (by kernel_rfl) rfl) Ac cc fl _ hCc (fun x hx A' c' W hb hc hC => (rules_wrongSet.calls _ A' c' x _ W hC hc (Ev.rounds (wrong_ev x (Kd.C_max hC))).choose_spec).mono (fun e w' h => ⟨h.1, h.2.below⟩))).mono ?_; rintro e W9 ⟨rfl, hb⟩; rw [HW.out]; have HO9 := HO8.grow hb; clear HO8 hb hCc; clear z0 z1 z2 z3 z4; have z0 := HO9.box_cell 0 rfl 0 rfl; have z1 := HO9.box_cell 0 rfl 1 rfl; have z2 := HO9.box_cell 0 rfl 2 rfl; have z3 := HO9.box_cell 0 rfl 3 rfl; have z4 := HO9.box_cell 0 rfl 4 rfl)
                          | (go_at_call 49; go_loud (refine (context_calls f0 f1 f2 A0 A1 A2 c0 c1 c2 _ _ rfl rfl _ (HO9.old H0.out) (HO9.old H1.out) (HO9.old H2.out) D0.out D1.out D2.out (by have := HN0.out; omega) (by have := HN1.out; omega) (by have := HN2.out; omega)).mono ?_; rintro e W10 ⟨Ac, cc, rfl, hCc, hb⟩; rw [HFL.out] at hCc ⊢; have HO10 := HO9.grow hb; clear HO9 hb; clear z0 z1 z2 z3 z4; have z0 := HO10.box_cell 0 rfl 0 rfl; have z1 := HO10.box_cell 0 rfl 1 rfl; have z2 := HO10.box_cell 0 rfl 2 rfl; have z3 := HO10.box_cell 0 rfl 3 rfl; have z4 := HO10.box_cell 0 rfl 4 rfl))
                          | (go_at_call 48; refine (conL (fun l => l.any (unkP G)) 44 #[.pointer (some ⟨g7, 0, none⟩)] (enters_ (P := Try.prog) Try.func44 (by kernel_rfl) rfl) Ac cc fl _ hCc (fun x hx A' c' W hb hc hC => unknown_calls G g7 A' c' x W hC (box_below (HO10.box_at 3 rfl).1 hb))).mono ?_; rintro e W11 ⟨rfl, hb⟩; rw [HU.out]; have HO11 := HO10.grow hb; clear HO10 hb hCc; clear z0 z1 z2 z3 z4; have z0 := HO11.box_cell 0 rfl 0 rfl; have z1 := HO11.box_cell 0 rfl 1 rfl; have z2 := HO11.box_cell 0 rfl 2 rfl; have z3 := HO11.box_cell 0 rfl 3 rfl; have z4 := HO11.box_cell 0 rfl 4 rfl)
                          | (go_at_call 44; refine (unknown_calls G g7 A3 c3 f3 _ (HO11.old H3.out) (HO11.box_at 3 rfl).1).mono ?_; rintro e W12 ⟨rfl, hb⟩; rw [HV3.out]; have HO12 := HO11.grow hb; clear HO11 hb; clear z0 z1 z2 z3 z4; have z0 := HO12.box_cell 0 rfl 0 rfl; have z1 := HO12.box_cell 0 rfl 1 rfl; have z2 := HO12.box_cell 0 rfl 2 rfl; have z3 := HO12.box_cell 0 rfl 3 rfl; have z4 := HO12.box_cell 0 rfl 4 rfl))
                        go_ret
                        exact ⟨by rw [HV.out]; rfl, HO12.below⟩
                      case false =>
                        have HV3 := Aside0.mk hv
                        cases h5 : f4.any (callP f1.length k L)
                        case true =>
                          have HC5 := Aside0.mk h5
                          have HV : Aside0 (ruleP ⟨f0, f1, f2, f3, f4⟩ k L G = 32) := ⟨by unfold ruleP; dsimp only; rw [if_neg k1.out, if_neg k2.out, hfl, if_neg (by rw [hw]; decide), if_neg (by rw [hu, hv]; decide), if_pos h5]⟩
                          clear a1 a2 a3 a4 b1 b2 b3 b4 hfl hw hu hv h5
                          go_wp2_with (first
                            | ((with_reducible refine gate_dst (N := 4) rfl ?_); refine ev_box (N := 4) (cs := #[.slice A0 f0.length c0, .slice A1 f1.length c1, .slice A2 f2.length c2, .slice A3 f3.length c3, .slice A4 f4.length c4]) (t := 49) HO rfl rfl ?hr ?_; (case hr => first | (go_simp; done) | (go_simp; rfl)); intro g4 W4 HO4 hb4; clear HO hb4; have z0 := HO4.box_cell 0 rfl 0 rfl; have z1 := HO4.box_cell 0 rfl 1 rfl; have z2 := HO4.box_cell 0 rfl 2 rfl; have z3 := HO4.box_cell 0 rfl 3 rfl; have z4 := HO4.box_cell 0 rfl 4 rfl)
                            | ((with_reducible refine gate_dst (N := 5) rfl ?_); refine ev_box (N := 5) (cs := #[.int .i64 k]) (t := 3) HO4 rfl rfl ?hr ?_; (case hr => first | (go_simp; done) | (go_simp; rfl)); intro g5 W5 HO5 hb5; clear HO4 hb5; clear z0 z1 z2 z3 z4; have z0 := HO5.box_cell 0 rfl 0 rfl; have z1 := HO5.box_cell 0 rfl 1 rfl; have z2 := HO5.box_cell 0 rfl 2 rfl; have z3 := HO5.box_cell 0 rfl 3 rfl; have z4 := HO5.box_cell 0 rfl 4 rfl)
                            | ((with_reducible refine gate_dst (N := 6) rfl ?_); refine ev_box (N := 6) (cs := #[.int .i64 L]) (t := 3) HO5 rfl rfl ?hr ?_; (case hr => first | (go_simp; done) | (go_simp; rfl)); intro g6 W6 HO6 hb6; clear HO5 hb6; clear z0 z1 z2 z3 z4; have z0 := HO6.box_cell 0 rfl 0 rfl; have z1 := HO6.box_cell 0 rfl 1 rfl; have z2 := HO6.box_cell 0 rfl 2 rfl; have z3 := HO6.box_cell 0 rfl 3 rfl; have z4 := HO6.box_cell 0 rfl 4 rfl)
                            | ((with_reducible refine gate_dst (N := 7) rfl ?_); refine ev_box (N := 7) (cs := #[.int .i64 G]) (t := 3) HO6 rfl rfl ?hr ?_; (case hr => first | (go_simp; done) | (go_simp; rfl)); intro g7 W7 HO7 hb7; clear HO6 hb7; clear z0 z1 z2 z3 z4; have z0 := HO7.box_cell 0 rfl 0 rfl; have z1 := HO7.box_cell 0 rfl 1 rfl; have z2 := HO7.box_cell 0 rfl 2 rfl; have z3 := HO7.box_cell 0 rfl 3 rfl; have z4 := HO7.box_cell 0 rfl 4 rfl)
                            | (go_at_call 49; go_loud (refine (context_calls f0 f1 f2 A0 A1 A2 c0 c1 c2 _ _ rfl rfl _ (HO7.old H0.out) (HO7.old H1.out) (HO7.old H2.out) D0.out D1.out D2.out (by have := HN0.out; omega) (by have := HN1.out; omega) (by have := HN2.out; omega)).mono ?_; rintro e W8 ⟨Ac, cc, rfl, hCc, hb⟩; rw [HFL.out] at hCc ⊢; have HO8 := HO7.grow hb; clear HO7 hb; clear z0 z1 z2 z3 z4; have z0 := HO8.box_cell 0 rfl 0 rfl; have z1 := HO8.box_cell 0 rfl 1 rfl; have z2 := HO8.box_cell 0 rfl 2 rfl; have z3 := HO8.box_cell 0 rfl 3 rfl; have z4 := HO8.box_cell 0 rfl 4 rfl))
                            | (go_at_call 48; refine (conL wrongP 50 #[] (enters_ (P := Try.prog) Try.func50 (by kernel_rfl) rfl) Ac cc fl _ hCc (fun x hx A' c' W hb hc hC => (rules_wrongSet.calls _ A' c' x _ W hC hc (Ev.rounds (wrong_ev x (Kd.C_max hC))).choose_spec).mono (fun e w' h => ⟨h.1, h.2.below⟩))).mono ?_; rintro e W9 ⟨rfl, hb⟩; rw [HW.out]; have HO9 := HO8.grow hb; clear HO8 hb hCc; clear z0 z1 z2 z3 z4; have z0 := HO9.box_cell 0 rfl 0 rfl; have z1 := HO9.box_cell 0 rfl 1 rfl; have z2 := HO9.box_cell 0 rfl 2 rfl; have z3 := HO9.box_cell 0 rfl 3 rfl; have z4 := HO9.box_cell 0 rfl 4 rfl)
                            | (go_at_call 49; go_loud (refine (context_calls f0 f1 f2 A0 A1 A2 c0 c1 c2 _ _ rfl rfl _ (HO9.old H0.out) (HO9.old H1.out) (HO9.old H2.out) D0.out D1.out D2.out (by have := HN0.out; omega) (by have := HN1.out; omega) (by have := HN2.out; omega)).mono ?_; rintro e W10 ⟨Ac, cc, rfl, hCc, hb⟩; rw [HFL.out] at hCc ⊢; have HO10 := HO9.grow hb; clear HO9 hb; clear z0 z1 z2 z3 z4; have z0 := HO10.box_cell 0 rfl 0 rfl; have z1 := HO10.box_cell 0 rfl 1 rfl; have z2 := HO10.box_cell 0 rfl 2 rfl; have z3 := HO10.box_cell 0 rfl 3 rfl; have z4 := HO10.box_cell 0 rfl 4 rfl))
                            | (go_at_call 48; refine (conL (fun l => l.any (unkP G)) 44 #[.pointer (some ⟨g7, 0, none⟩)] (enters_ (P := Try.prog) Try.func44 (by kernel_rfl) rfl) Ac cc fl _ hCc (fun x hx A' c' W hb hc hC => unknown_calls G g7 A' c' x W hC (box_below (HO10.box_at 3 rfl).1 hb))).mono ?_; rintro e W11 ⟨rfl, hb⟩; rw [HU.out]; have HO11 := HO10.grow hb; clear HO10 hb hCc; clear z0 z1 z2 z3 z4; have z0 := HO11.box_cell 0 rfl 0 rfl; have z1 := HO11.box_cell 0 rfl 1 rfl; have z2 := HO11.box_cell 0 rfl 2 rfl; have z3 := HO11.box_cell 0 rfl 3 rfl; have z4 := HO11.box_cell 0 rfl 4 rfl)
                            | (go_at_call 44; refine (unknown_calls G g7 A3 c3 f3 _ (HO11.old H3.out) (HO11.box_at 3 rfl).1).mono ?_; rintro e W12 ⟨rfl, hb⟩; rw [HV3.out]; have HO12 := HO11.grow hb; clear HO11 hb; clear z0 z1 z2 z3 z4; have z0 := HO12.box_cell 0 rfl 0 rfl; have z1 := HO12.box_cell 0 rfl 1 rfl; have z2 := HO12.box_cell 0 rfl 2 rfl; have z3 := HO12.box_cell 0 rfl 3 rfl; have z4 := HO12.box_cell 0 rfl 4 rfl)
                            | (go_at_call 51; refine (conC (callP f1.length k L) 47 #[.pointer (some ⟨g4, 0, none⟩), .pointer (some ⟨g5, 0, none⟩), .pointer (some ⟨g6, 0, none⟩)] (enters_ (P := Try.prog) Try.func47 (by kernel_rfl) rfl) A4 c4 f4 _ (HO12.old H4.out) (fun x hx W hb => rules_checkRule_2.calls x.f0 x.f1 A0 c0 f0 A1 c1 f1 A2 c2 f2 A3 c3 f3 A4 c4 f4 k L _ W (Kd.C_below (HO12.old H0.out) hb) D0.out (Kd.C_below (HO12.old H1.out) hb) D1.out (Kd.C_below (HO12.old H2.out) hb) D2.out (Kd.C_below (HO12.old H3.out) hb) D3.out (Kd.C_below (HO12.old H4.out) hb) D4.out (box_below (HO12.box_at 0 rfl).1 hb) (box_below (HO12.box_at 1 rfl).1 hb) (box_below (HO12.box_at 2 rfl).1 hb) (HO12.box_ne 0 1 (by decide) rfl rfl) (HO12.box_ne 0 2 (by decide) rfl rfl) (HO12.box_ne 1 2 (by decide) rfl rfl) (call_f _ k L f0 f1 f2 f3 f4 x rfl))).mono ?_; rintro e W13 ⟨rfl, hb⟩; rw [HC5.out]; have HO13 := HO12.grow hb; clear HO12 hb))
                          go_ret
                          exact ⟨by rw [HV.out]; rfl, HO13.below⟩
                        case false =>
                          have HC5 := Aside0.mk h5
                          have HV : Aside0 (ruleP ⟨f0, f1, f2, f3, f4⟩ k L G = 0) := ⟨by unfold ruleP; dsimp only; rw [if_neg k1.out, if_neg k2.out, hfl, if_neg (by rw [hw]; decide), if_neg (by rw [hu, hv]; decide), if_neg (by rw [h5]; decide)]⟩
                          clear a1 a2 a3 a4 b1 b2 b3 b4 hfl hw hu hv h5
                          go_wp2_with (first
                            | ((with_reducible refine gate_dst (N := 4) rfl ?_); refine ev_box (N := 4) (cs := #[.slice A0 f0.length c0, .slice A1 f1.length c1, .slice A2 f2.length c2, .slice A3 f3.length c3, .slice A4 f4.length c4]) (t := 49) HO rfl rfl ?hr ?_; (case hr => first | (go_simp; done) | (go_simp; rfl)); intro g4 W4 HO4 hb4; clear HO hb4; have z0 := HO4.box_cell 0 rfl 0 rfl; have z1 := HO4.box_cell 0 rfl 1 rfl; have z2 := HO4.box_cell 0 rfl 2 rfl; have z3 := HO4.box_cell 0 rfl 3 rfl; have z4 := HO4.box_cell 0 rfl 4 rfl)
                            | ((with_reducible refine gate_dst (N := 5) rfl ?_); refine ev_box (N := 5) (cs := #[.int .i64 k]) (t := 3) HO4 rfl rfl ?hr ?_; (case hr => first | (go_simp; done) | (go_simp; rfl)); intro g5 W5 HO5 hb5; clear HO4 hb5; clear z0 z1 z2 z3 z4; have z0 := HO5.box_cell 0 rfl 0 rfl; have z1 := HO5.box_cell 0 rfl 1 rfl; have z2 := HO5.box_cell 0 rfl 2 rfl; have z3 := HO5.box_cell 0 rfl 3 rfl; have z4 := HO5.box_cell 0 rfl 4 rfl)
                            | ((with_reducible refine gate_dst (N := 6) rfl ?_); refine ev_box (N := 6) (cs := #[.int .i64 L]) (t := 3) HO5 rfl rfl ?hr ?_; (case hr => first | (go_simp; done) | (go_simp; rfl)); intro g6 W6 HO6 hb6; clear HO5 hb6; clear z0 z1 z2 z3 z4; have z0 := HO6.box_cell 0 rfl 0 rfl; have z1 := HO6.box_cell 0 rfl 1 rfl; have z2 := HO6.box_cell 0 rfl 2 rfl; have z3 := HO6.box_cell 0 rfl 3 rfl; have z4 := HO6.box_cell 0 rfl 4 rfl)
                            | ((with_reducible refine gate_dst (N := 7) rfl ?_); refine ev_box (N := 7) (cs := #[.int .i64 G]) (t := 3) HO6 rfl rfl ?hr ?_; (case hr => first | (go_simp; done) | (go_simp; rfl)); intro g7 W7 HO7 hb7; clear HO6 hb7; clear z0 z1 z2 z3 z4; have z0 := HO7.box_cell 0 rfl 0 rfl; have z1 := HO7.box_cell 0 rfl 1 rfl; have z2 := HO7.box_cell 0 rfl 2 rfl; have z3 := HO7.box_cell 0 rfl 3 rfl; have z4 := HO7.box_cell 0 rfl 4 rfl)
                            | (go_at_call 49; go_loud (refine (context_calls f0 f1 f2 A0 A1 A2 c0 c1 c2 _ _ rfl rfl _ (HO7.old H0.out) (HO7.old H1.out) (HO7.old H2.out) D0.out D1.out D2.out (by have := HN0.out; omega) (by have := HN1.out; omega) (by have := HN2.out; omega)).mono ?_; rintro e W8 ⟨Ac, cc, rfl, hCc, hb⟩; rw [HFL.out] at hCc ⊢; have HO8 := HO7.grow hb; clear HO7 hb; clear z0 z1 z2 z3 z4; have z0 := HO8.box_cell 0 rfl 0 rfl; have z1 := HO8.box_cell 0 rfl 1 rfl; have z2 := HO8.box_cell 0 rfl 2 rfl; have z3 := HO8.box_cell 0 rfl 3 rfl; have z4 := HO8.box_cell 0 rfl 4 rfl))
                            | (go_at_call 48; refine (conL wrongP 50 #[] (enters_ (P := Try.prog) Try.func50 (by kernel_rfl) rfl) Ac cc fl _ hCc (fun x hx A' c' W hb hc hC => (rules_wrongSet.calls _ A' c' x _ W hC hc (Ev.rounds (wrong_ev x (Kd.C_max hC))).choose_spec).mono (fun e w' h => ⟨h.1, h.2.below⟩))).mono ?_; rintro e W9 ⟨rfl, hb⟩; rw [HW.out]; have HO9 := HO8.grow hb; clear HO8 hb hCc; clear z0 z1 z2 z3 z4; have z0 := HO9.box_cell 0 rfl 0 rfl; have z1 := HO9.box_cell 0 rfl 1 rfl; have z2 := HO9.box_cell 0 rfl 2 rfl; have z3 := HO9.box_cell 0 rfl 3 rfl; have z4 := HO9.box_cell 0 rfl 4 rfl)
                            | (go_at_call 49; go_loud (refine (context_calls f0 f1 f2 A0 A1 A2 c0 c1 c2 _ _ rfl rfl _ (HO9.old H0.out) (HO9.old H1.out) (HO9.old H2.out) D0.out D1.out D2.out (by have := HN0.out; omega) (by have := HN1.out; omega) (by have := HN2.out; omega)).mono ?_; rintro e W10 ⟨Ac, cc, rfl, hCc, hb⟩; rw [HFL.out] at hCc ⊢; have HO10 := HO9.grow hb; clear HO9 hb; clear z0 z1 z2 z3 z4; have z0 := HO10.box_cell 0 rfl 0 rfl; have z1 := HO10.box_cell 0 rfl 1 rfl; have z2 := HO10.box_cell 0 rfl 2 rfl; have z3 := HO10.box_cell 0 rfl 3 rfl; have z4 := HO10.box_cell 0 rfl 4 rfl))
                            | (go_at_call 48; refine (conL (fun l => l.any (unkP G)) 44 #[.pointer (some ⟨g7, 0, none⟩)] (enters_ (P := Try.prog) Try.func44 (by kernel_rfl) rfl) Ac cc fl _ hCc (fun x hx A' c' W hb hc hC => unknown_calls G g7 A' c' x W hC (box_below (HO10.box_at 3 rfl).1 hb))).mono ?_; rintro e W11 ⟨rfl, hb⟩; rw [HU.out]; have HO11 := HO10.grow hb; clear HO10 hb hCc; clear z0 z1 z2 z3 z4; have z0 := HO11.box_cell 0 rfl 0 rfl; have z1 := HO11.box_cell 0 rfl 1 rfl; have z2 := HO11.box_cell 0 rfl 2 rfl; have z3 := HO11.box_cell 0 rfl 3 rfl; have z4 := HO11.box_cell 0 rfl 4 rfl)
                            | (go_at_call 44; refine (unknown_calls G g7 A3 c3 f3 _ (HO11.old H3.out) (HO11.box_at 3 rfl).1).mono ?_; rintro e W12 ⟨rfl, hb⟩; rw [HV3.out]; have HO12 := HO11.grow hb; clear HO11 hb; clear z0 z1 z2 z3 z4; have z0 := HO12.box_cell 0 rfl 0 rfl; have z1 := HO12.box_cell 0 rfl 1 rfl; have z2 := HO12.box_cell 0 rfl 2 rfl; have z3 := HO12.box_cell 0 rfl 3 rfl; have z4 := HO12.box_cell 0 rfl 4 rfl)
                            | (go_at_call 51; refine (conC (callP f1.length k L) 47 #[.pointer (some ⟨g4, 0, none⟩), .pointer (some ⟨g5, 0, none⟩), .pointer (some ⟨g6, 0, none⟩)] (enters_ (P := Try.prog) Try.func47 (by kernel_rfl) rfl) A4 c4 f4 _ (HO12.old H4.out) (fun x hx W hb => rules_checkRule_2.calls x.f0 x.f1 A0 c0 f0 A1 c1 f1 A2 c2 f2 A3 c3 f3 A4 c4 f4 k L _ W (Kd.C_below (HO12.old H0.out) hb) D0.out (Kd.C_below (HO12.old H1.out) hb) D1.out (Kd.C_below (HO12.old H2.out) hb) D2.out (Kd.C_below (HO12.old H3.out) hb) D3.out (Kd.C_below (HO12.old H4.out) hb) D4.out (box_below (HO12.box_at 0 rfl).1 hb) (box_below (HO12.box_at 1 rfl).1 hb) (box_below (HO12.box_at 2 rfl).1 hb) (HO12.box_ne 0 1 (by decide) rfl rfl) (HO12.box_ne 0 2 (by decide) rfl rfl) (HO12.box_ne 1 2 (by decide) rfl rfl) (call_f _ k L f0 f1 f2 f3 f4 x rfl))).mono ?_; rintro e W13 ⟨rfl, hb⟩; rw [HC5.out]; have HO13 := HO12.grow hb; clear HO12 hb))
                          go_ret
                          exact ⟨by rw [HV.out]; rfl, HO13.below⟩
              case neg =>
                have eb3 : ((f3.length : Int) > 0) = False := eq_false (by omega)
                have db3 : decide ((f3.length : Int) > 0) = false := decide_eq_false (by omega)
                have pb3 : (0 < f3.length) = False := eq_false (by omega)
                have qb3 : decide (0 < f3.length) = false := decide_eq_false (by omega)
                have nb3 : (f3 = []) = True := eq_true (List.eq_nil_of_length_eq_zero (by omega))
                have HN0 := Aside0.mk (show f0.length ≤ 3 by omega)
                have HN1 := Aside0.mk (show f1.length ≤ 4 by omega)
                have HN2 := Aside0.mk (show f2.length ≤ 3 by omega)
                have k1 := Aside0.mk (show ¬ (f1.length = 0 ∨ f1.length > 4 ∨ f0.length > 3 ∨ f2.length > 3) by omega)
                have k2 := Aside0.mk (show ¬ (f3.length > 4 ∨ f4.length > 3 ∨ (f3.length > 0 ∧ f4.length > 0)) by omega)
                obtain ⟨fl, hfl⟩ : ∃ fl, f1 ++ f0 ++ f2 = fl := ⟨_, rfl⟩
                have HFL := Aside0.mk hfl
                cases hw : fl.any wrongP
                case true =>
                  have HW := Aside0.mk hw
                  have HV : Aside0 (ruleP ⟨f0, f1, f2, f3, f4⟩ k L G = 31) := ⟨by unfold ruleP; dsimp only; rw [if_neg k1.out, if_neg k2.out, hfl, if_pos hw]⟩
                  clear a1 a2 a3 a4 b1 b2 b3 hfl hw
                  go_wp2_with (first
                    | ((with_reducible refine gate_dst (N := 4) rfl ?_); refine ev_box (N := 4) (cs := #[.slice A0 f0.length c0, .slice A1 f1.length c1, .slice A2 f2.length c2, .slice A3 f3.length c3, .slice A4 f4.length c4]) (t := 49) HO rfl rfl ?hr ?_; (case hr => first | (go_simp; done) | (go_simp; rfl)); intro g4 W4 HO4 hb4; clear HO hb4; have z0 := HO4.box_cell 0 rfl 0 rfl; have z1 := HO4.box_cell 0 rfl 1 rfl; have z2 := HO4.box_cell 0 rfl 2 rfl; have z3 := HO4.box_cell 0 rfl 3 rfl; have z4 := HO4.box_cell 0 rfl 4 rfl)
                    | ((with_reducible refine gate_dst (N := 5) rfl ?_); refine ev_box (N := 5) (cs := #[.int .i64 k]) (t := 3) HO4 rfl rfl ?hr ?_; (case hr => first | (go_simp; done) | (go_simp; rfl)); intro g5 W5 HO5 hb5; clear HO4 hb5; clear z0 z1 z2 z3 z4; have z0 := HO5.box_cell 0 rfl 0 rfl; have z1 := HO5.box_cell 0 rfl 1 rfl; have z2 := HO5.box_cell 0 rfl 2 rfl; have z3 := HO5.box_cell 0 rfl 3 rfl; have z4 := HO5.box_cell 0 rfl 4 rfl)
                    | ((with_reducible refine gate_dst (N := 6) rfl ?_); refine ev_box (N := 6) (cs := #[.int .i64 L]) (t := 3) HO5 rfl rfl ?hr ?_; (case hr => first | (go_simp; done) | (go_simp; rfl)); intro g6 W6 HO6 hb6; clear HO5 hb6; clear z0 z1 z2 z3 z4; have z0 := HO6.box_cell 0 rfl 0 rfl; have z1 := HO6.box_cell 0 rfl 1 rfl; have z2 := HO6.box_cell 0 rfl 2 rfl; have z3 := HO6.box_cell 0 rfl 3 rfl; have z4 := HO6.box_cell 0 rfl 4 rfl)
                    | ((with_reducible refine gate_dst (N := 7) rfl ?_); refine ev_box (N := 7) (cs := #[.int .i64 G]) (t := 3) HO6 rfl rfl ?hr ?_; (case hr => first | (go_simp; done) | (go_simp; rfl)); intro g7 W7 HO7 hb7; clear HO6 hb7; clear z0 z1 z2 z3 z4; have z0 := HO7.box_cell 0 rfl 0 rfl; have z1 := HO7.box_cell 0 rfl 1 rfl; have z2 := HO7.box_cell 0 rfl 2 rfl; have z3 := HO7.box_cell 0 rfl 3 rfl; have z4 := HO7.box_cell 0 rfl 4 rfl)
                    | (go_at_call 49; go_loud (refine (context_calls f0 f1 f2 A0 A1 A2 c0 c1 c2 _ _ rfl rfl _ (HO7.old H0.out) (HO7.old H1.out) (HO7.old H2.out) D0.out D1.out D2.out (by have := HN0.out; omega) (by have := HN1.out; omega) (by have := HN2.out; omega)).mono ?_; rintro e W8 ⟨Ac, cc, rfl, hCc, hb⟩; rw [HFL.out] at hCc ⊢; have HO8 := HO7.grow hb; clear HO7 hb; clear z0 z1 z2 z3 z4; have z0 := HO8.box_cell 0 rfl 0 rfl; have z1 := HO8.box_cell 0 rfl 1 rfl; have z2 := HO8.box_cell 0 rfl 2 rfl; have z3 := HO8.box_cell 0 rfl 3 rfl; have z4 := HO8.box_cell 0 rfl 4 rfl))
                    | (go_at_call 48; refine (conL wrongP 50 #[] (enters_ (P := Try.prog) Try.func50 (by kernel_rfl) rfl) Ac cc fl _ hCc (fun x hx A' c' W hb hc hC => (rules_wrongSet.calls _ A' c' x _ W hC hc (Ev.rounds (wrong_ev x (Kd.C_max hC))).choose_spec).mono (fun e w' h => ⟨h.1, h.2.below⟩))).mono ?_; rintro e W9 ⟨rfl, hb⟩; rw [HW.out]; have HO9 := HO8.grow hb; clear HO8 hb hCc; clear z0 z1 z2 z3 z4; have z0 := HO9.box_cell 0 rfl 0 rfl; have z1 := HO9.box_cell 0 rfl 1 rfl; have z2 := HO9.box_cell 0 rfl 2 rfl; have z3 := HO9.box_cell 0 rfl 3 rfl; have z4 := HO9.box_cell 0 rfl 4 rfl))
                  go_ret
                  exact ⟨by rw [HV.out]; rfl, HO9.below⟩
                case false =>
                  have HW := Aside0.mk hw
                  cases hu : fl.any (fun l => l.any (unkP G))
                  case true =>
                    have HU := Aside0.mk hu
                    have HV : Aside0 (ruleP ⟨f0, f1, f2, f3, f4⟩ k L G = 30) := ⟨by unfold ruleP; dsimp only; rw [if_neg k1.out, if_neg k2.out, hfl, if_neg (by rw [hw]; decide), if_pos (.inl hu)]⟩
                    clear a1 a2 a3 a4 b1 b2 b3 hfl hw hu
                    go_wp2_with (first
                      | ((with_reducible refine gate_dst (N := 4) rfl ?_); refine ev_box (N := 4) (cs := #[.slice A0 f0.length c0, .slice A1 f1.length c1, .slice A2 f2.length c2, .slice A3 f3.length c3, .slice A4 f4.length c4]) (t := 49) HO rfl rfl ?hr ?_; (case hr => first | (go_simp; done) | (go_simp; rfl)); intro g4 W4 HO4 hb4; clear HO hb4; have z0 := HO4.box_cell 0 rfl 0 rfl; have z1 := HO4.box_cell 0 rfl 1 rfl; have z2 := HO4.box_cell 0 rfl 2 rfl; have z3 := HO4.box_cell 0 rfl 3 rfl; have z4 := HO4.box_cell 0 rfl 4 rfl)
                      | ((with_reducible refine gate_dst (N := 5) rfl ?_); refine ev_box (N := 5) (cs := #[.int .i64 k]) (t := 3) HO4 rfl rfl ?hr ?_; (case hr => first | (go_simp; done) | (go_simp; rfl)); intro g5 W5 HO5 hb5; clear HO4 hb5; clear z0 z1 z2 z3 z4; have z0 := HO5.box_cell 0 rfl 0 rfl; have z1 := HO5.box_cell 0 rfl 1 rfl; have z2 := HO5.box_cell 0 rfl 2 rfl; have z3 := HO5.box_cell 0 rfl 3 rfl; have z4 := HO5.box_cell 0 rfl 4 rfl)
                      | ((with_reducible refine gate_dst (N := 6) rfl ?_); refine ev_box (N := 6) (cs := #[.int .i64 L]) (t := 3) HO5 rfl rfl ?hr ?_; (case hr => first | (go_simp; done) | (go_simp; rfl)); intro g6 W6 HO6 hb6; clear HO5 hb6; clear z0 z1 z2 z3 z4; have z0 := HO6.box_cell 0 rfl 0 rfl; have z1 := HO6.box_cell 0 rfl 1 rfl; have z2 := HO6.box_cell 0 rfl 2 rfl; have z3 := HO6.box_cell 0 rfl 3 rfl; have z4 := HO6.box_cell 0 rfl 4 rfl)
                      | ((with_reducible refine gate_dst (N := 7) rfl ?_); refine ev_box (N := 7) (cs := #[.int .i64 G]) (t := 3) HO6 rfl rfl ?hr ?_; (case hr => first | (go_simp; done) | (go_simp; rfl)); intro g7 W7 HO7 hb7; clear HO6 hb7; clear z0 z1 z2 z3 z4; have z0 := HO7.box_cell 0 rfl 0 rfl; have z1 := HO7.box_cell 0 rfl 1 rfl; have z2 := HO7.box_cell 0 rfl 2 rfl; have z3 := HO7.box_cell 0 rfl 3 rfl; have z4 := HO7.box_cell 0 rfl 4 rfl)
                      | (go_at_call 49; go_loud (refine (context_calls f0 f1 f2 A0 A1 A2 c0 c1 c2 _ _ rfl rfl _ (HO7.old H0.out) (HO7.old H1.out) (HO7.old H2.out) D0.out D1.out D2.out (by have := HN0.out; omega) (by have := HN1.out; omega) (by have := HN2.out; omega)).mono ?_; rintro e W8 ⟨Ac, cc, rfl, hCc, hb⟩; rw [HFL.out] at hCc ⊢; have HO8 := HO7.grow hb; clear HO7 hb; clear z0 z1 z2 z3 z4; have z0 := HO8.box_cell 0 rfl 0 rfl; have z1 := HO8.box_cell 0 rfl 1 rfl; have z2 := HO8.box_cell 0 rfl 2 rfl; have z3 := HO8.box_cell 0 rfl 3 rfl; have z4 := HO8.box_cell 0 rfl 4 rfl))
                      | (go_at_call 48; refine (conL wrongP 50 #[] (enters_ (P := Try.prog) Try.func50 (by kernel_rfl) rfl) Ac cc fl _ hCc (fun x hx A' c' W hb hc hC => (rules_wrongSet.calls _ A' c' x _ W hC hc (Ev.rounds (wrong_ev x (Kd.C_max hC))).choose_spec).mono (fun e w' h => ⟨h.1, h.2.below⟩))).mono ?_; rintro e W9 ⟨rfl, hb⟩; rw [HW.out]; have HO9 := HO8.grow hb; clear HO8 hb hCc; clear z0 z1 z2 z3 z4; have z0 := HO9.box_cell 0 rfl 0 rfl; have z1 := HO9.box_cell 0 rfl 1 rfl; have z2 := HO9.box_cell 0 rfl 2 rfl; have z3 := HO9.box_cell 0 rfl 3 rfl; have z4 := HO9.box_cell 0 rfl 4 rfl)
                      | (go_at_call 49; go_loud (refine (context_calls f0 f1 f2 A0 A1 A2 c0 c1 c2 _ _ rfl rfl _ (HO9.old H0.out) (HO9.old H1.out) (HO9.old H2.out) D0.out D1.out D2.out (by have := HN0.out; omega) (by have := HN1.out; omega) (by have := HN2.out; omega)).mono ?_; rintro e W10 ⟨Ac, cc, rfl, hCc, hb⟩; rw [HFL.out] at hCc ⊢; have HO10 := HO9.grow hb; clear HO9 hb; clear z0 z1 z2 z3 z4; have z0 := HO10.box_cell 0 rfl 0 rfl; have z1 := HO10.box_cell 0 rfl 1 rfl; have z2 := HO10.box_cell 0 rfl 2 rfl; have z3 := HO10.box_cell 0 rfl 3 rfl; have z4 := HO10.box_cell 0 rfl 4 rfl))
                      | (go_at_call 48; refine (conL (fun l => l.any (unkP G)) 44 #[.pointer (some ⟨g7, 0, none⟩)] (enters_ (P := Try.prog) Try.func44 (by kernel_rfl) rfl) Ac cc fl _ hCc (fun x hx A' c' W hb hc hC => unknown_calls G g7 A' c' x W hC (box_below (HO10.box_at 3 rfl).1 hb))).mono ?_; rintro e W11 ⟨rfl, hb⟩; rw [HU.out]; have HO11 := HO10.grow hb; clear HO10 hb hCc; clear z0 z1 z2 z3 z4; have z0 := HO11.box_cell 0 rfl 0 rfl; have z1 := HO11.box_cell 0 rfl 1 rfl; have z2 := HO11.box_cell 0 rfl 2 rfl; have z3 := HO11.box_cell 0 rfl 3 rfl; have z4 := HO11.box_cell 0 rfl 4 rfl))
                    go_ret
                    exact ⟨by rw [HV.out]; rfl, HO11.below⟩
                  case false =>
                    have HU := Aside0.mk hu
                    cases hv : f3.any (unkP G)
                    case true =>
                      have HV3 := Aside0.mk hv
                      have HV : Aside0 (ruleP ⟨f0, f1, f2, f3, f4⟩ k L G = 30) := ⟨by unfold ruleP; dsimp only; rw [if_neg k1.out, if_neg k2.out, hfl, if_neg (by rw [hw]; decide), if_pos (.inr hv)]⟩
                      clear a1 a2 a3 a4 b1 b2 b3 hfl hw hu hv
                      go_wp2_with (first
                        | ((with_reducible refine gate_dst (N := 4) rfl ?_); refine ev_box (N := 4) (cs := #[.slice A0 f0.length c0, .slice A1 f1.length c1, .slice A2 f2.length c2, .slice A3 f3.length c3, .slice A4 f4.length c4]) (t := 49) HO rfl rfl ?hr ?_; (case hr => first | (go_simp; done) | (go_simp; rfl)); intro g4 W4 HO4 hb4; clear HO hb4; have z0 := HO4.box_cell 0 rfl 0 rfl; have z1 := HO4.box_cell 0 rfl 1 rfl; have z2 := HO4.box_cell 0 rfl 2 rfl; have z3 := HO4.box_cell 0 rfl 3 rfl; have z4 := HO4.box_cell 0 rfl 4 rfl)
                        | ((with_reducible refine gate_dst (N := 5) rfl ?_); refine ev_box (N := 5) (cs := #[.int .i64 k]) (t := 3) HO4 rfl rfl ?hr ?_; (case hr => first | (go_simp; done) | (go_simp; rfl)); intro g5 W5 HO5 hb5; clear HO4 hb5; clear z0 z1 z2 z3 z4; have z0 := HO5.box_cell 0 rfl 0 rfl; have z1 := HO5.box_cell 0 rfl 1 rfl; have z2 := HO5.box_cell 0 rfl 2 rfl; have z3 := HO5.box_cell 0 rfl 3 rfl; have z4 := HO5.box_cell 0 rfl 4 rfl)
                        | ((with_reducible refine gate_dst (N := 6) rfl ?_); refine ev_box (N := 6) (cs := #[.int .i64 L]) (t := 3) HO5 rfl rfl ?hr ?_; (case hr => first | (go_simp; done) | (go_simp; rfl)); intro g6 W6 HO6 hb6; clear HO5 hb6; clear z0 z1 z2 z3 z4; have z0 := HO6.box_cell 0 rfl 0 rfl; have z1 := HO6.box_cell 0 rfl 1 rfl; have z2 := HO6.box_cell 0 rfl 2 rfl; have z3 := HO6.box_cell 0 rfl 3 rfl; have z4 := HO6.box_cell 0 rfl 4 rfl)
                        | ((with_reducible refine gate_dst (N := 7) rfl ?_); refine ev_box (N := 7) (cs := #[.int .i64 G]) (t := 3) HO6 rfl rfl ?hr ?_; (case hr => first | (go_simp; done) | (go_simp; rfl)); intro g7 W7 HO7 hb7; clear HO6 hb7; clear z0 z1 z2 z3 z4; have z0 := HO7.box_cell 0 rfl 0 rfl; have z1 := HO7.box_cell 0 rfl 1 rfl; have z2 := HO7.box_cell 0 rfl 2 rfl; have z3 := HO7.box_cell 0 rfl 3 rfl; have z4 := HO7.box_cell 0 rfl 4 rfl)
                        | (go_at_call 49; go_loud (refine (context_calls f0 f1 f2 A0 A1 A2 c0 c1 c2 _ _ rfl rfl _ (HO7.old H0.out) (HO7.old H1.out) (HO7.old H2.out) D0.out D1.out D2.out (by have := HN0.out; omega) (by have := HN1.out; omega) (by have := HN2.out; omega)).mono ?_; rintro e W8 ⟨Ac, cc, rfl, hCc, hb⟩; rw [HFL.out] at hCc ⊢; have HO8 := HO7.grow hb; clear HO7 hb; clear z0 z1 z2 z3 z4; have z0 := HO8.box_cell 0 rfl 0 rfl; have z1 := HO8.box_cell 0 rfl 1 rfl; have z2 := HO8.box_cell 0 rfl 2 rfl; have z3 := HO8.box_cell 0 rfl 3 rfl; have z4 := HO8.box_cell 0 rfl 4 rfl))
                        | (go_at_call 48; refine (conL wrongP 50 #[] (enters_ (P := Try.prog) Try.func50 (by kernel_rfl) rfl) Ac cc fl _ hCc (fun x hx A' c' W hb hc hC => (rules_wrongSet.calls _ A' c' x _ W hC hc (Ev.rounds (wrong_ev x (Kd.C_max hC))).choose_spec).mono (fun e w' h => ⟨h.1, h.2.below⟩))).mono ?_; rintro e W9 ⟨rfl, hb⟩; rw [HW.out]; have HO9 := HO8.grow hb; clear HO8 hb hCc; clear z0 z1 z2 z3 z4; have z0 := HO9.box_cell 0 rfl 0 rfl; have z1 := HO9.box_cell 0 rfl 1 rfl; have z2 := HO9.box_cell 0 rfl 2 rfl; have z3 := HO9.box_cell 0 rfl 3 rfl; have z4 := HO9.box_cell 0 rfl 4 rfl)
                        | (go_at_call 49; go_loud (refine (context_calls f0 f1 f2 A0 A1 A2 c0 c1 c2 _ _ rfl rfl _ (HO9.old H0.out) (HO9.old H1.out) (HO9.old H2.out) D0.out D1.out D2.out (by have := HN0.out; omega) (by have := HN1.out; omega) (by have := HN2.out; omega)).mono ?_; rintro e W10 ⟨Ac, cc, rfl, hCc, hb⟩; rw [HFL.out] at hCc ⊢; have HO10 := HO9.grow hb; clear HO9 hb; clear z0 z1 z2 z3 z4; have z0 := HO10.box_cell 0 rfl 0 rfl; have z1 := HO10.box_cell 0 rfl 1 rfl; have z2 := HO10.box_cell 0 rfl 2 rfl; have z3 := HO10.box_cell 0 rfl 3 rfl; have z4 := HO10.box_cell 0 rfl 4 rfl))
                        | (go_at_call 48; refine (conL (fun l => l.any (unkP G)) 44 #[.pointer (some ⟨g7, 0, none⟩)] (enters_ (P := Try.prog) Try.func44 (by kernel_rfl) rfl) Ac cc fl _ hCc (fun x hx A' c' W hb hc hC => unknown_calls G g7 A' c' x W hC (box_below (HO10.box_at 3 rfl).1 hb))).mono ?_; rintro e W11 ⟨rfl, hb⟩; rw [HU.out]; have HO11 := HO10.grow hb; clear HO10 hb hCc; clear z0 z1 z2 z3 z4; have z0 := HO11.box_cell 0 rfl 0 rfl; have z1 := HO11.box_cell 0 rfl 1 rfl; have z2 := HO11.box_cell 0 rfl 2 rfl; have z3 := HO11.box_cell 0 rfl 3 rfl; have z4 := HO11.box_cell 0 rfl 4 rfl)
                        | (go_at_call 44; refine (unknown_calls G g7 A3 c3 f3 _ (HO11.old H3.out) (HO11.box_at 3 rfl).1).mono ?_; rintro e W12 ⟨rfl, hb⟩; rw [HV3.out]; have HO12 := HO11.grow hb; clear HO11 hb; clear z0 z1 z2 z3 z4; have z0 := HO12.box_cell 0 rfl 0 rfl; have z1 := HO12.box_cell 0 rfl 1 rfl; have z2 := HO12.box_cell 0 rfl 2 rfl; have z3 := HO12.box_cell 0 rfl 3 rfl; have z4 := HO12.box_cell 0 rfl 4 rfl))
                      go_ret
                      exact ⟨by rw [HV.out]; rfl, HO12.below⟩
                    case false =>
                      have HV3 := Aside0.mk hv
                      cases h5 : f4.any (callP f1.length k L)
                      case true =>
                        have HC5 := Aside0.mk h5
                        have HV : Aside0 (ruleP ⟨f0, f1, f2, f3, f4⟩ k L G = 32) := ⟨by unfold ruleP; dsimp only; rw [if_neg k1.out, if_neg k2.out, hfl, if_neg (by rw [hw]; decide), if_neg (by rw [hu, hv]; decide), if_pos h5]⟩
                        clear a1 a2 a3 a4 b1 b2 b3 hfl hw hu hv h5
                        go_wp2_with (first
                          | ((with_reducible refine gate_dst (N := 4) rfl ?_); refine ev_box (N := 4) (cs := #[.slice A0 f0.length c0, .slice A1 f1.length c1, .slice A2 f2.length c2, .slice A3 f3.length c3, .slice A4 f4.length c4]) (t := 49) HO rfl rfl ?hr ?_; (case hr => first | (go_simp; done) | (go_simp; rfl)); intro g4 W4 HO4 hb4; clear HO hb4; have z0 := HO4.box_cell 0 rfl 0 rfl; have z1 := HO4.box_cell 0 rfl 1 rfl; have z2 := HO4.box_cell 0 rfl 2 rfl; have z3 := HO4.box_cell 0 rfl 3 rfl; have z4 := HO4.box_cell 0 rfl 4 rfl)
                          | ((with_reducible refine gate_dst (N := 5) rfl ?_); refine ev_box (N := 5) (cs := #[.int .i64 k]) (t := 3) HO4 rfl rfl ?hr ?_; (case hr => first | (go_simp; done) | (go_simp; rfl)); intro g5 W5 HO5 hb5; clear HO4 hb5; clear z0 z1 z2 z3 z4; have z0 := HO5.box_cell 0 rfl 0 rfl; have z1 := HO5.box_cell 0 rfl 1 rfl; have z2 := HO5.box_cell 0 rfl 2 rfl; have z3 := HO5.box_cell 0 rfl 3 rfl; have z4 := HO5.box_cell 0 rfl 4 rfl)
                          | ((with_reducible refine gate_dst (N := 6) rfl ?_); refine ev_box (N := 6) (cs := #[.int .i64 L]) (t := 3) HO5 rfl rfl ?hr ?_; (case hr => first | (go_simp; done) | (go_simp; rfl)); intro g6 W6 HO6 hb6; clear HO5 hb6; clear z0 z1 z2 z3 z4; have z0 := HO6.box_cell 0 rfl 0 rfl; have z1 := HO6.box_cell 0 rfl 1 rfl; have z2 := HO6.box_cell 0 rfl 2 rfl; have z3 := HO6.box_cell 0 rfl 3 rfl; have z4 := HO6.box_cell 0 rfl 4 rfl)
                          | ((with_reducible refine gate_dst (N := 7) rfl ?_); refine ev_box (N := 7) (cs := #[.int .i64 G]) (t := 3) HO6 rfl rfl ?hr ?_; (case hr => first | (go_simp; done) | (go_simp; rfl)); intro g7 W7 HO7 hb7; clear HO6 hb7; clear z0 z1 z2 z3 z4; have z0 := HO7.box_cell 0 rfl 0 rfl; have z1 := HO7.box_cell 0 rfl 1 rfl; have z2 := HO7.box_cell 0 rfl 2 rfl; have z3 := HO7.box_cell 0 rfl 3 rfl; have z4 := HO7.box_cell 0 rfl 4 rfl)
                          | (go_at_call 49; go_loud (refine (context_calls f0 f1 f2 A0 A1 A2 c0 c1 c2 _ _ rfl rfl _ (HO7.old H0.out) (HO7.old H1.out) (HO7.old H2.out) D0.out D1.out D2.out (by have := HN0.out; omega) (by have := HN1.out; omega) (by have := HN2.out; omega)).mono ?_; rintro e W8 ⟨Ac, cc, rfl, hCc, hb⟩; rw [HFL.out] at hCc ⊢; have HO8 := HO7.grow hb; clear HO7 hb; clear z0 z1 z2 z3 z4; have z0 := HO8.box_cell 0 rfl 0 rfl; have z1 := HO8.box_cell 0 rfl 1 rfl; have z2 := HO8.box_cell 0 rfl 2 rfl; have z3 := HO8.box_cell 0 rfl 3 rfl; have z4 := HO8.box_cell 0 rfl 4 rfl))
                          | (go_at_call 48; refine (conL wrongP 50 #[] (enters_ (P := Try.prog) Try.func50 (by kernel_rfl) rfl) Ac cc fl _ hCc (fun x hx A' c' W hb hc hC => (rules_wrongSet.calls _ A' c' x _ W hC hc (Ev.rounds (wrong_ev x (Kd.C_max hC))).choose_spec).mono (fun e w' h => ⟨h.1, h.2.below⟩))).mono ?_; rintro e W9 ⟨rfl, hb⟩; rw [HW.out]; have HO9 := HO8.grow hb; clear HO8 hb hCc; clear z0 z1 z2 z3 z4; have z0 := HO9.box_cell 0 rfl 0 rfl; have z1 := HO9.box_cell 0 rfl 1 rfl; have z2 := HO9.box_cell 0 rfl 2 rfl; have z3 := HO9.box_cell 0 rfl 3 rfl; have z4 := HO9.box_cell 0 rfl 4 rfl)
                          | (go_at_call 49; go_loud (refine (context_calls f0 f1 f2 A0 A1 A2 c0 c1 c2 _ _ rfl rfl _ (HO9.old H0.out) (HO9.old H1.out) (HO9.old H2.out) D0.out D1.out D2.out (by have := HN0.out; omega) (by have := HN1.out; omega) (by have := HN2.out; omega)).mono ?_; rintro e W10 ⟨Ac, cc, rfl, hCc, hb⟩; rw [HFL.out] at hCc ⊢; have HO10 := HO9.grow hb; clear HO9 hb; clear z0 z1 z2 z3 z4; have z0 := HO10.box_cell 0 rfl 0 rfl; have z1 := HO10.box_cell 0 rfl 1 rfl; have z2 := HO10.box_cell 0 rfl 2 rfl; have z3 := HO10.box_cell 0 rfl 3 rfl; have z4 := HO10.box_cell 0 rfl 4 rfl))
                          | (go_at_call 48; refine (conL (fun l => l.any (unkP G)) 44 #[.pointer (some ⟨g7, 0, none⟩)] (enters_ (P := Try.prog) Try.func44 (by kernel_rfl) rfl) Ac cc fl _ hCc (fun x hx A' c' W hb hc hC => unknown_calls G g7 A' c' x W hC (box_below (HO10.box_at 3 rfl).1 hb))).mono ?_; rintro e W11 ⟨rfl, hb⟩; rw [HU.out]; have HO11 := HO10.grow hb; clear HO10 hb hCc; clear z0 z1 z2 z3 z4; have z0 := HO11.box_cell 0 rfl 0 rfl; have z1 := HO11.box_cell 0 rfl 1 rfl; have z2 := HO11.box_cell 0 rfl 2 rfl; have z3 := HO11.box_cell 0 rfl 3 rfl; have z4 := HO11.box_cell 0 rfl 4 rfl)
                          | (go_at_call 44; refine (unknown_calls G g7 A3 c3 f3 _ (HO11.old H3.out) (HO11.box_at 3 rfl).1).mono ?_; rintro e W12 ⟨rfl, hb⟩; rw [HV3.out]; have HO12 := HO11.grow hb; clear HO11 hb; clear z0 z1 z2 z3 z4; have z0 := HO12.box_cell 0 rfl 0 rfl; have z1 := HO12.box_cell 0 rfl 1 rfl; have z2 := HO12.box_cell 0 rfl 2 rfl; have z3 := HO12.box_cell 0 rfl 3 rfl; have z4 := HO12.box_cell 0 rfl 4 rfl)
                          | (go_at_call 51; refine (conC (callP f1.length k L) 47 #[.pointer (some ⟨g4, 0, none⟩), .pointer (some ⟨g5, 0, none⟩), .pointer (some ⟨g6, 0, none⟩)] (enters_ (P := Try.prog) Try.func47 (by kernel_rfl) rfl) A4 c4 f4 _ (HO12.old H4.out) (fun x hx W hb => rules_checkRule_2.calls x.f0 x.f1 A0 c0 f0 A1 c1 f1 A2 c2 f2 A3 c3 f3 A4 c4 f4 k L _ W (Kd.C_below (HO12.old H0.out) hb) D0.out (Kd.C_below (HO12.old H1.out) hb) D1.out (Kd.C_below (HO12.old H2.out) hb) D2.out (Kd.C_below (HO12.old H3.out) hb) D3.out (Kd.C_below (HO12.old H4.out) hb) D4.out (box_below (HO12.box_at 0 rfl).1 hb) (box_below (HO12.box_at 1 rfl).1 hb) (box_below (HO12.box_at 2 rfl).1 hb) (HO12.box_ne 0 1 (by decide) rfl rfl) (HO12.box_ne 0 2 (by decide) rfl rfl) (HO12.box_ne 1 2 (by decide) rfl rfl) (call_f _ k L f0 f1 f2 f3 f4 x rfl))).mono ?_; rintro e W13 ⟨rfl, hb⟩; rw [HC5.out]; have HO13 := HO12.grow hb; clear HO12 hb))
                        go_ret
                        exact ⟨by rw [HV.out]; rfl, HO13.below⟩
                      case false =>
                        have HC5 := Aside0.mk h5
                        have HV : Aside0 (ruleP ⟨f0, f1, f2, f3, f4⟩ k L G = 0) := ⟨by unfold ruleP; dsimp only; rw [if_neg k1.out, if_neg k2.out, hfl, if_neg (by rw [hw]; decide), if_neg (by rw [hu, hv]; decide), if_neg (by rw [h5]; decide)]⟩
                        clear a1 a2 a3 a4 b1 b2 b3 hfl hw hu hv h5
                        go_wp2_with (first
                          | ((with_reducible refine gate_dst (N := 4) rfl ?_); refine ev_box (N := 4) (cs := #[.slice A0 f0.length c0, .slice A1 f1.length c1, .slice A2 f2.length c2, .slice A3 f3.length c3, .slice A4 f4.length c4]) (t := 49) HO rfl rfl ?hr ?_; (case hr => first | (go_simp; done) | (go_simp; rfl)); intro g4 W4 HO4 hb4; clear HO hb4; have z0 := HO4.box_cell 0 rfl 0 rfl; have z1 := HO4.box_cell 0 rfl 1 rfl; have z2 := HO4.box_cell 0 rfl 2 rfl; have z3 := HO4.box_cell 0 rfl 3 rfl; have z4 := HO4.box_cell 0 rfl 4 rfl)
                          | ((with_reducible refine gate_dst (N := 5) rfl ?_); refine ev_box (N := 5) (cs := #[.int .i64 k]) (t := 3) HO4 rfl rfl ?hr ?_; (case hr => first | (go_simp; done) | (go_simp; rfl)); intro g5 W5 HO5 hb5; clear HO4 hb5; clear z0 z1 z2 z3 z4; have z0 := HO5.box_cell 0 rfl 0 rfl; have z1 := HO5.box_cell 0 rfl 1 rfl; have z2 := HO5.box_cell 0 rfl 2 rfl; have z3 := HO5.box_cell 0 rfl 3 rfl; have z4 := HO5.box_cell 0 rfl 4 rfl)
                          | ((with_reducible refine gate_dst (N := 6) rfl ?_); refine ev_box (N := 6) (cs := #[.int .i64 L]) (t := 3) HO5 rfl rfl ?hr ?_; (case hr => first | (go_simp; done) | (go_simp; rfl)); intro g6 W6 HO6 hb6; clear HO5 hb6; clear z0 z1 z2 z3 z4; have z0 := HO6.box_cell 0 rfl 0 rfl; have z1 := HO6.box_cell 0 rfl 1 rfl; have z2 := HO6.box_cell 0 rfl 2 rfl; have z3 := HO6.box_cell 0 rfl 3 rfl; have z4 := HO6.box_cell 0 rfl 4 rfl)
                          | ((with_reducible refine gate_dst (N := 7) rfl ?_); refine ev_box (N := 7) (cs := #[.int .i64 G]) (t := 3) HO6 rfl rfl ?hr ?_; (case hr => first | (go_simp; done) | (go_simp; rfl)); intro g7 W7 HO7 hb7; clear HO6 hb7; clear z0 z1 z2 z3 z4; have z0 := HO7.box_cell 0 rfl 0 rfl; have z1 := HO7.box_cell 0 rfl 1 rfl; have z2 := HO7.box_cell 0 rfl 2 rfl; have z3 := HO7.box_cell 0 rfl 3 rfl; have z4 := HO7.box_cell 0 rfl 4 rfl)
                          | (go_at_call 49; go_loud (refine (context_calls f0 f1 f2 A0 A1 A2 c0 c1 c2 _ _ rfl rfl _ (HO7.old H0.out) (HO7.old H1.out) (HO7.old H2.out) D0.out D1.out D2.out (by have := HN0.out; omega) (by have := HN1.out; omega) (by have := HN2.out; omega)).mono ?_; rintro e W8 ⟨Ac, cc, rfl, hCc, hb⟩; rw [HFL.out] at hCc ⊢; have HO8 := HO7.grow hb; clear HO7 hb; clear z0 z1 z2 z3 z4; have z0 := HO8.box_cell 0 rfl 0 rfl; have z1 := HO8.box_cell 0 rfl 1 rfl; have z2 := HO8.box_cell 0 rfl 2 rfl; have z3 := HO8.box_cell 0 rfl 3 rfl; have z4 := HO8.box_cell 0 rfl 4 rfl))
                          | (go_at_call 48; refine (conL wrongP 50 #[] (enters_ (P := Try.prog) Try.func50 (by kernel_rfl) rfl) Ac cc fl _ hCc (fun x hx A' c' W hb hc hC => (rules_wrongSet.calls _ A' c' x _ W hC hc (Ev.rounds (wrong_ev x (Kd.C_max hC))).choose_spec).mono (fun e w' h => ⟨h.1, h.2.below⟩))).mono ?_; rintro e W9 ⟨rfl, hb⟩; rw [HW.out]; have HO9 := HO8.grow hb; clear HO8 hb hCc; clear z0 z1 z2 z3 z4; have z0 := HO9.box_cell 0 rfl 0 rfl; have z1 := HO9.box_cell 0 rfl 1 rfl; have z2 := HO9.box_cell 0 rfl 2 rfl; have z3 := HO9.box_cell 0 rfl 3 rfl; have z4 := HO9.box_cell 0 rfl 4 rfl)
                          | (go_at_call 49; go_loud (refine (context_calls f0 f1 f2 A0 A1 A2 c0 c1 c2 _ _ rfl rfl _ (HO9.old H0.out) (HO9.old H1.out) (HO9.old H2.out) D0.out D1.out D2.out (by have := HN0.out; omega) (by have := HN1.out; omega) (by have := HN2.out; omega)).mono ?_; rintro e W10 ⟨Ac, cc, rfl, hCc, hb⟩; rw [HFL.out] at hCc ⊢; have HO10 := HO9.grow hb; clear HO9 hb; clear z0 z1 z2 z3 z4; have z0 := HO10.box_cell 0 rfl 0 rfl; have z1 := HO10.box_cell 0 rfl 1 rfl; have z2 := HO10.box_cell 0 rfl 2 rfl; have z3 := HO10.box_cell 0 rfl 3 rfl; have z4 := HO10.box_cell 0 rfl 4 rfl))
                          | (go_at_call 48; refine (conL (fun l => l.any (unkP G)) 44 #[.pointer (some ⟨g7, 0, none⟩)] (enters_ (P := Try.prog) Try.func44 (by kernel_rfl) rfl) Ac cc fl _ hCc (fun x hx A' c' W hb hc hC => unknown_calls G g7 A' c' x W hC (box_below (HO10.box_at 3 rfl).1 hb))).mono ?_; rintro e W11 ⟨rfl, hb⟩; rw [HU.out]; have HO11 := HO10.grow hb; clear HO10 hb hCc; clear z0 z1 z2 z3 z4; have z0 := HO11.box_cell 0 rfl 0 rfl; have z1 := HO11.box_cell 0 rfl 1 rfl; have z2 := HO11.box_cell 0 rfl 2 rfl; have z3 := HO11.box_cell 0 rfl 3 rfl; have z4 := HO11.box_cell 0 rfl 4 rfl)
                          | (go_at_call 44; refine (unknown_calls G g7 A3 c3 f3 _ (HO11.old H3.out) (HO11.box_at 3 rfl).1).mono ?_; rintro e W12 ⟨rfl, hb⟩; rw [HV3.out]; have HO12 := HO11.grow hb; clear HO11 hb; clear z0 z1 z2 z3 z4; have z0 := HO12.box_cell 0 rfl 0 rfl; have z1 := HO12.box_cell 0 rfl 1 rfl; have z2 := HO12.box_cell 0 rfl 2 rfl; have z3 := HO12.box_cell 0 rfl 3 rfl; have z4 := HO12.box_cell 0 rfl 4 rfl)
                          | (go_at_call 51; refine (conC (callP f1.length k L) 47 #[.pointer (some ⟨g4, 0, none⟩), .pointer (some ⟨g5, 0, none⟩), .pointer (some ⟨g6, 0, none⟩)] (enters_ (P := Try.prog) Try.func47 (by kernel_rfl) rfl) A4 c4 f4 _ (HO12.old H4.out) (fun x hx W hb => rules_checkRule_2.calls x.f0 x.f1 A0 c0 f0 A1 c1 f1 A2 c2 f2 A3 c3 f3 A4 c4 f4 k L _ W (Kd.C_below (HO12.old H0.out) hb) D0.out (Kd.C_below (HO12.old H1.out) hb) D1.out (Kd.C_below (HO12.old H2.out) hb) D2.out (Kd.C_below (HO12.old H3.out) hb) D3.out (Kd.C_below (HO12.old H4.out) hb) D4.out (box_below (HO12.box_at 0 rfl).1 hb) (box_below (HO12.box_at 1 rfl).1 hb) (box_below (HO12.box_at 2 rfl).1 hb) (HO12.box_ne 0 1 (by decide) rfl rfl) (HO12.box_ne 0 2 (by decide) rfl rfl) (HO12.box_ne 1 2 (by decide) rfl rfl) (call_f _ k L f0 f1 f2 f3 f4 x rfl))).mono ?_; rintro e W13 ⟨rfl, hb⟩; rw [HC5.out]; have HO13 := HO12.grow hb; clear HO12 hb))
                        go_ret
                        exact ⟨by rw [HV.out]; rfl, HO13.below⟩
end Go.Proofs.Ytlgkeaildncojaa.Q
end
section
/- rules.Check. Printed by genChk.py. -/
namespace Go.Proofs.Ytlgkeaildncojaa.Q
open Go.RowKit Go.Shelf Go.Proofs.YtlgkeaildncojaaW.PrintWords Go.Proofs.YtlgkeaildncojaaW.PrintLast Go.Proofs.YtlgkeaildncojaaW.PrintMore
set_option linter.unusedSimpArgs false
set_option linter.unusedVariables false
attribute [local go_sem] Oper.semAt_some
theorem sz49 : (Try.prog.info? 49).map (·.size) = some 5 := by kernel_rfl
theorem rules_step (k L G : Int) (l : List S49) (j : Nat) (h : j < l.length) : rulesP k L G (l.drop j) = if ruleP (l.getD j z49) k L G = 0 then rulesP k L G (l.drop (j + 1)) else ruleP (l.getD j z49) k L G := by
  rw [List.drop_eq_getElem_cons h, List.getD_eq_getElem?_getD, List.getElem?_eq_getElem h]
  rfl
set_option maxRecDepth 100000 in
set_option maxHeartbeats 8000000 in
theorem check_calls (A : Option Addr) (c : Nat) (l : List S49) (k L G : Int) (w : World) (hr : Kd.C k49 w A l.length l) :
    Calls Try.prog 16 #[.agg #[.slice A l.length c], .int .i64 k, .int .i64 L, .int .i64 G] w fun e w' => e = .returned (.int .i64 (checkP l k L G)) ∧ Below w.heap.size w w' := by
  have HR := Aside0.mk hr
  have HM := Aside0.mk (Kd.C_max hr)
  have HO := Own.start w
  clear hr
  go_enter Try.func16, Try.ntmps16
  by_cases h0 : L < 1
  case pos =>
    have e0 : (L < 1) = True := eq_true h0
    have d0 : decide (L < 1) = true := decide_eq_true h0
    have HV : Aside0 (checkP l k L G = 1) := ⟨by unfold checkP; rw [if_pos (by omega)]⟩
    clear h0
    go_wp2_with (first
      | ((with_reducible refine gate_dst (N := 4) rfl ?_); refine ev_box (N := 4) (cs := #[.slice A l.length c]) (t := 24) HO rfl rfl ?hr ?_; (case hr => first | (go_simp; done) | (go_simp; rfl)); intro g4 W4 HO4 hb4; clear HO hb4; have z0 := HO4.box_cell 0 rfl 0 rfl))
    go_ret
    exact ⟨by rw [HV.out]; rfl, HO4.below⟩
  have e0 : (L < 1) = False := eq_false h0
  have d0 : decide (L < 1) = false := decide_eq_false h0
  by_cases h1 : L > 12
  case pos =>
    have e1 : (L > 12) = True := eq_true h1
    have d1 : decide (L > 12) = true := decide_eq_true h1
    have HV : Aside0 (checkP l k L G = 1) := ⟨by unfold checkP; rw [if_pos (by omega)]⟩
    clear h0 h1
    go_wp2_with (first
      | ((with_reducible refine gate_dst (N := 4) rfl ?_); refine ev_box (N := 4) (cs := #[.slice A l.length c]) (t := 24) HO rfl rfl ?hr ?_; (case hr => first | (go_simp; done) | (go_simp; rfl)); intro g4 W4 HO4 hb4; clear HO hb4; have z0 := HO4.box_cell 0 rfl 0 rfl))
    go_ret
    exact ⟨by rw [HV.out]; rfl, HO4.below⟩
  have e1 : (L > 12) = False := eq_false h1
  have d1 : decide (L > 12) = false := decide_eq_false h1
  by_cases h2 : k < 0
  case pos =>
    have e2 : (k < 0) = True := eq_true h2
    have d2 : decide (k < 0) = true := decide_eq_true h2
    have HV : Aside0 (checkP l k L G = 1) := ⟨by unfold checkP; rw [if_pos (by omega)]⟩
    clear h0 h1 h2
    go_wp2_with (first
      | ((with_reducible refine gate_dst (N := 4) rfl ?_); refine ev_box (N := 4) (cs := #[.slice A l.length c]) (t := 24) HO rfl rfl ?hr ?_; (case hr => first | (go_simp; done) | (go_simp; rfl)); intro g4 W4 HO4 hb4; clear HO hb4; have z0 := HO4.box_cell 0 rfl 0 rfl))
    go_ret
    exact ⟨by rw [HV.out]; rfl, HO4.below⟩
  have e2 : (k < 0) = False := eq_false h2
  have d2 : decide (k < 0) = false := decide_eq_false h2
  by_cases h3 : k ≥ L
  case pos =>
    have e3 : (k ≥ L) = True := eq_true h3
    have d3 : decide (k ≥ L) = true := decide_eq_true h3
    have HV : Aside0 (checkP l k L G = 1) := ⟨by unfold checkP; rw [if_pos (by omega)]⟩
    clear h0 h1 h2 h3
    go_wp2_with (first
      | ((with_reducible refine gate_dst (N := 4) rfl ?_); refine ev_box (N := 4) (cs := #[.slice A l.length c]) (t := 24) HO rfl rfl ?hr ?_; (case hr => first | (go_simp; done) | (go_simp; rfl)); intro g4 W4 HO4 hb4; clear HO hb4; have z0 := HO4.box_cell 0 rfl 0 rfl))
    go_ret
    exact ⟨by rw [HV.out]; rfl, HO4.below⟩
  have e3 : (k ≥ L) = False := eq_false h3
  have d3 : decide (k ≥ L) = false := decide_eq_false h3
  by_cases h4 : G < 1
  case pos =>
    have e4 : (G < 1) = True := eq_true h4
    have d4 : decide (G < 1) = true := decide_eq_true h4
    have HV : Aside0 (checkP l k L G = 1) := ⟨by unfold checkP; rw [if_pos (by omega)]⟩
    clear h0 h1 h2 h3 h4
    go_wp2_with (first
      | ((with_reducible refine gate_dst (N := 4) rfl ?_); refine ev_box (N := 4) (cs := #[.slice A l.length c]) (t := 24) HO rfl rfl ?hr ?_; (case hr => first | (go_simp; done) | (go_simp; rfl)); intro g4 W4 HO4 hb4; clear HO hb4; have z0 := HO4.box_cell 0 rfl 0 rfl))
    go_ret
    exact ⟨by rw [HV.out]; rfl, HO4.below⟩
  have e4 : (G < 1) = False := eq_false h4
  have d4 : decide (G < 1) = false := decide_eq_false h4
  by_cases h5 : G > 100
  case pos =>
    have e5 : (G > 100) = True := eq_true h5
    have d5 : decide (G > 100) = true := decide_eq_true h5
    have HV : Aside0 (checkP l k L G = 1) := ⟨by unfold checkP; rw [if_pos (by omega)]⟩
    clear h0 h1 h2 h3 h4 h5
    go_wp2_with (first
      | ((with_reducible refine gate_dst (N := 4) rfl ?_); refine ev_box (N := 4) (cs := #[.slice A l.length c]) (t := 24) HO rfl rfl ?hr ?_; (case hr => first | (go_simp; done) | (go_simp; rfl)); intro g4 W4 HO4 hb4; clear HO hb4; have z0 := HO4.box_cell 0 rfl 0 rfl))
    go_ret
    exact ⟨by rw [HV.out]; rfl, HO4.below⟩
  have e5 : (G > 100) = False := eq_false h5
  have d5 : decide (G > 100) = false := decide_eq_false h5
  have HN1 := Aside0.mk (show ¬ (L < 1 ∨ L > 12 ∨ k < 0 ∨ k ≥ L ∨ G < 1 ∨ G > 100) by omega)
  by_cases h8 : l.length > 8
  case pos =>
    have e8 : ((l.length : Int) > 8) = True := eq_true (by omega)
    have d8 : decide ((l.length : Int) > 8) = true := decide_eq_true (by omega)
    have HV : Aside0 (checkP l k L G = 2) := ⟨by unfold checkP; rw [if_neg HN1.out, if_pos h8]⟩
    clear h0 h1 h2 h3 h4 h5 h8
    go_wp2_with (first
      | ((with_reducible refine gate_dst (N := 4) rfl ?_); refine ev_box (N := 4) (cs := #[.slice A l.length c]) (t := 24) HO rfl rfl ?hr ?_; (case hr => first | (go_simp; done) | (go_simp; rfl)); intro g4 W4 HO4 hb4; clear HO hb4; have z0 := HO4.box_cell 0 rfl 0 rfl))
    go_ret
    exact ⟨by rw [HV.out]; rfl, HO4.below⟩
  have e8 : ((l.length : Int) > 8) = False := eq_false (by omega)
  have d8 : decide ((l.length : Int) > 8) = false := decide_eq_false (by omega)
  have HV0 : Aside0 (checkP l k L G = rulesP k L G l) := ⟨by unfold checkP; rw [if_neg HN1.out, if_neg h8]⟩
  have HL8 := Aside0.mk (show l.length ≤ 8 by omega)
  clear h0 h1 h2 h3 h4 h5 h8
  go_wp2_with (first
    | ((with_reducible refine gate_dst (N := 4) rfl ?_); refine ev_box (N := 4) (cs := #[.slice A l.length c]) (t := 24) HO rfl rfl ?hr ?_; (case hr => first | (go_simp; done) | (go_simp; rfl)); intro g4 W4 HO4 hb4; clear HO hb4; have z0 := HO4.box_cell 0 rfl 0 rfl))
  go_loopw [42] (fun v42 w' => ∃ j : Nat, v42 = .int .i64 j ∧ Aside0 (j ≤ l.length) ∧ Aside0 (rulesP k L G (l.drop j) = rulesP k L G l) ∧ Aside0 (Own w w' [.box g4 24 #[.slice A l.length c]])) (fun v42 _ => l.length - (intOf v42).toNat)
  case atStart => exact ⟨0, rfl, ⟨Nat.zero_le _⟩, ⟨rfl⟩, ⟨HO4⟩⟩
  case round =>
    clear HO4 z0
    obtain ⟨j, rfl, HK, HP, HOO⟩ := hrel
    have HO := HOO.out
    clear HOO
    by_cases hlt : j < l.length
    case neg =>
      have q1 : ¬ ((j : Int) < (l.length : Int)) := by omega
      have HV1 : Aside0 (rulesP k L G l = 0) := ⟨by rw [← HP.out, List.drop_of_length_le (by omega)]; rfl⟩
      clear hlt
      go_wp2
      go_ret
      exact ⟨by rw [HV0.out, HV1.out]; rfl, HO.below⟩
    obtain ⟨ad, A0, c0, A1, c1, A2, c2, A3, c3, A4, c4, hA, x0, x1, x2, x3, x4, y0, y1, y2, y3, y4, y5, y6, y7, y8, y9⟩ := at_T49 HR.out (j : Int) (by omega) (by omega)
    subst hA
    replace x0 := pw_cell_below HO.below x0
    replace x1 := pw_cell_below HO.below x1
    replace x2 := pw_cell_below HO.below x2
    replace x3 := pw_cell_below HO.below x3
    replace x4 := pw_cell_below HO.below x4
    have hst := rules_step k L G l j hlt
    rw [HP.out] at hst
    rw [show rd_T49 l (j : Int) = l.getD j z49 from rfl] at x0 x1 x2 x3 x4 y0 y1 y2 y3 y4 y5 y6 y7 y8 y9
    rw [Int.toNat_natCast] at x0 x1 x2 x3 x4
    have q1 : ((j : Int) < (l.length : Int)) = True := eq_true (by omega)
    have q0 : (0 ≤ (j : Int)) = True := eq_true (by omega)
    have hkb : (j : Int) + 1 ≤ 100 := by have := HL8.out; omega
    generalize l.getD j z49 = yv at *
    obtain ⟨f0, f1, f2, f3, f4⟩ := yv
    dsimp only at x0 x1 x2 x3 x4 y0 y1 y2 y3 y4 y5 y6 y7 y8 y9
    have hcall := fun (W : World) (hb : Below w.heap.size w W) => checkRule_calls f0 f1 f2 f3 f4 A0 A1 A2 A3 A4 c0 c1 c2 c3 c4 k L G W (Kd.C_below y1 hb) (Kd.C_below y3 hb) (Kd.C_below y5 hb) (Kd.C_below y7 hb) (Kd.C_below y9 hb) y0 y2 y4 y6 y8
    clear y0 y1 y2 y3 y4 y5 y6 y7 y8 y9
    generalize ruleP ⟨f0, f1, f2, f3, f4⟩ k L G = rv at hst hcall
    have HC := Aside0.mk hcall
    have HKL := Aside0.mk hlt
    clear hcall hlt
    by_cases h0 : rv = 0
    case neg =>
      have HS := Aside0.mk (show rulesP k L G l = rv by rw [hst, if_neg h0])
      have e0 : (rv == 0) = false := beq_eq_false_iff_ne.mpr h0
      have n0 : (rv != 0) = true := by rw [bne, e0]; rfl
      clear hst h0
      go_wp2_with (first
        | ((with_reducible refine gate_dst (N := 10) rfl ?_); refine ev_box (N := 10) (cs := #[.slice none 0 0, .slice none 0 0, .slice none 0 0, .slice none 0 0, .slice none 0 0]) (t := 49) HO rfl rfl ?hr ?_; (case hr => first | (go_simp; done) | (go_simp; rfl)); intro g5 W5 HO5 hb5)
        | ((with_reducible refine gate_store (t := 49) (p := 10) rfl ?_); refine ev_store (cs' := #[.slice A0 f0.length c0, .slice A1 f1.length c1, .slice A2 f2.length c2, .slice A3 f3.length c3, .slice A4 f4.length c4]) (.agg #[.slice A0 f0.length c0, .slice A1 f1.length c1, .slice A2 f2.length c2, .slice A3 f3.length c3, .slice A4 f4.length c4]) 1 HO5 rfl rfl rfl rfl 0 rfl rfl sz49 (by simp [Value.oneCell', Value.cells]) (Nat.le_refl _) rfl ?_; intro W6 HO6; clear HO5 x0 x1 x2 x3 x4; have z0 := HO6.box_cell 1 rfl 0 rfl; have z1 := HO6.box_cell 1 rfl 1 rfl; have z2 := HO6.box_cell 1 rfl 2 rfl; have z3 := HO6.box_cell 1 rfl 3 rfl; have z4 := HO6.box_cell 1 rfl 4 rfl)
        | (go_at_call 34; go_loud (refine (HC.out _ HO6.below).mono ?_; rintro e W7 ⟨rfl, hb7⟩; have HO7 := HO6.grow hb7; clear HO6 hb7 z0 z1 z2 z3 z4)))
      go_ret
      exact ⟨by rw [HV0.out, HS.out]; rfl, HO7.below⟩
    case pos =>
      have HS := Aside0.mk (show rulesP k L G (l.drop (j + 1)) = rulesP k L G l by rw [hst, if_pos h0])
      have e0 : (rv == 0) = true := beq_iff_eq.mpr h0
      have n0 : (rv != 0) = false := by rw [bne, e0]; rfl
      clear hst h0
      go_wp2_with (first
        | ((with_reducible refine gate_dst (N := 10) rfl ?_); refine ev_box (N := 10) (cs := #[.slice none 0 0, .slice none 0 0, .slice none 0 0, .slice none 0 0, .slice none 0 0]) (t := 49) HO rfl rfl ?hr ?_; (case hr => first | (go_simp; done) | (go_simp; rfl)); intro g5 W5 HO5 hb5)
        | ((with_reducible refine gate_store (t := 49) (p := 10) rfl ?_); refine ev_store (cs' := #[.slice A0 f0.length c0, .slice A1 f1.length c1, .slice A2 f2.length c2, .slice A3 f3.length c3, .slice A4 f4.length c4]) (.agg #[.slice A0 f0.length c0, .slice A1 f1.length c1, .slice A2 f2.length c2, .slice A3 f3.length c3, .slice A4 f4.length c4]) 1 HO5 rfl rfl rfl rfl 0 rfl rfl sz49 (by simp [Value.oneCell', Value.cells]) (Nat.le_refl _) rfl ?_; intro W6 HO6; clear HO5 x0 x1 x2 x3 x4; have z0 := HO6.box_cell 1 rfl 0 rfl; have z1 := HO6.box_cell 1 rfl 1 rfl; have z2 := HO6.box_cell 1 rfl 2 rfl; have z3 := HO6.box_cell 1 rfl 3 rfl; have z4 := HO6.box_cell 1 rfl 4 rfl)
        | (go_at_call 34; go_loud (refine (HC.out _ HO6.below).mono ?_; rintro e W7 ⟨rfl, hb7⟩; have HO7 := HO6.grow hb7; clear HO6 hb7 z0 z1 z2 z3 z4)))
      have HO9 := HO7.upto 1
      go_roundw
      case rel => exact ⟨j + 1, by go_num, ⟨HKL.out⟩, ⟨HS.out⟩, ⟨HO9⟩⟩
      case measure => have := HKL.out; simp [intOf]; omega
end Go.Proofs.Ytlgkeaildncojaa.Q
end
section
/- slices.Sort's contract laid at this program, in plain words (by the kit's own tool lay-plain.mjs). -/
namespace Go.Proofs.Ytlgkeaildncojaa.Q
open Go.Shelf
def lays_Sort_ren : Go.Shelf.Ren := ⟨fun | 189 => 59 | 125 => 70 | 257 => 69 | 128 => 82 | 129 => 83 | 294 => 73 | 295 => 74 | 296 => 75 | 297 => 76 | 298 => 77 | 299 => 78 | 216 => 79 | 300 => 80 | 301 => 81 | 328 => 84 | 329 => 85 | 330 => 86 | 331 => 87 | 332 => 88 | 215 => 89 | 343 => 90 | n => n, fun | 28 => 26 | 3 => 3 | 46 => 80 | 0 => 0 | 51 => 128 | 53 => 130 | 4 => 4 | 183 => 120 | 182 => 119 | 131 => 125 | 5 => 5 | 9 => 9 | 218 => 131 | 222 => 135 | 228 => 137 | 229 => 138 | n => n, fun | n => n⟩
theorem lays_Sort : Go.Proofs.Lays.n189 Try.prog lays_Sort_ren := {
  mixed := by kernel_rfl
  f125 := Try.func70.trans (congrArg some (by kernel_rfl))
  f128 := Try.func82.trans (congrArg some (by kernel_rfl))
  f129 := Try.func83.trans (congrArg some (by kernel_rfl))
  f189 := Try.func59.trans (congrArg some (by kernel_rfl))
  f215 := Try.func89.trans (congrArg some (by kernel_rfl))
  f216 := Try.func79.trans (congrArg some (by kernel_rfl))
  f257 := Try.func69.trans (congrArg some (by kernel_rfl))
  f294 := Try.func73.trans (congrArg some (by kernel_rfl))
  f295 := Try.func74.trans (congrArg some (by kernel_rfl))
  f296 := Try.func75.trans (congrArg some (by kernel_rfl))
  f297 := Try.func76.trans (congrArg some (by kernel_rfl))
  f298 := Try.func77.trans (congrArg some (by kernel_rfl))
  f299 := Try.func78.trans (congrArg some (by kernel_rfl))
  f300 := Try.func80.trans (congrArg some (by kernel_rfl))
  f301 := Try.func81.trans (congrArg some (by kernel_rfl))
  f328 := Try.func84.trans (congrArg some (by kernel_rfl))
  f329 := Try.func85.trans (congrArg some (by kernel_rfl))
  f330 := Try.func86.trans (congrArg some (by kernel_rfl))
  f331 := Try.func87.trans (congrArg some (by kernel_rfl))
  f332 := Try.func88.trans (congrArg some (by kernel_rfl))
  f343 := Try.func90.trans (congrArg some (by kernel_rfl))
  t0 := Try.underlying0
  a0 := Try.isAgg0
  z0 := Try.sizeOf0
  v0 := Try.zeroValue0
  t3 := Try.underlying3
  a3 := Try.isAgg3
  z3 := Try.sizeOf3
  v3 := Try.zeroValue3
  t4 := Try.underlying4
  a4 := Try.isAgg4
  z4 := Try.sizeOf4
  v4 := Try.zeroValue4
  t5 := Try.underlying5
  a5 := Try.isAgg5
  z5 := Try.sizeOf5
  v5 := Try.zeroValue5
  t9 := Try.underlying9
  a9 := Try.isAgg9
  z9 := Try.sizeOf9
  v9 := Try.zeroValue9
  t28 := Try.underlying26
  a28 := Try.isAgg26
  z28 := Try.sizeOf26
  v28 := Try.zeroValue26
  t46 := Try.underlying80
  a46 := Try.isAgg80
  z46 := Try.sizeOf80
  v46 := Try.zeroValue80
  t51 := Try.underlying128
  a51 := Try.isAgg128
  z51 := Try.sizeOf128
  v51 := Try.zeroValue128
  t53 := Try.underlying130
  a53 := Try.isAgg130
  z53 := Try.sizeOf130
  v53 := Try.zeroValue130
  t131 := Try.underlying125
  a131 := Try.isAgg125
  z131 := Try.sizeOf125
  v131 := Try.zeroValue125
  t182 := Try.underlying119
  a182 := Try.isAgg119
  z182 := Try.sizeOf119
  v182 := Try.zeroValue119
  t183 := Try.underlying120
  a183 := Try.isAgg120
  z183 := Try.sizeOf120
  v183 := Try.zeroValue120
  t218 := Try.underlying131
  a218 := Try.isAgg131
  z218 := Try.sizeOf131
  v218 := Try.zeroValue131
  t222 := Try.underlying135
  a222 := Try.isAgg135
  z222 := Try.sizeOf135
  v222 := Try.zeroValue135
  t228 := Try.underlying137
  a228 := Try.isAgg137
  z228 := Try.sizeOf137
  v228 := Try.zeroValue137
  t229 := Try.underlying138
  a229 := Try.isAgg138
  z229 := Try.sizeOf138
  v229 := Try.zeroValue138 }
end Go.Proofs.Ytlgkeaildncojaa.Q
end
section
namespace Go.Proofs.Ytlgkeaildncojaa.Q
open Go.RowKit Go.Proofs.YtlgkeaildncojaaW.PrintWords Go.Proofs.YtlgkeaildncojaaW.PrintLast Go.Proofs.YtlgkeaildncojaaW.PrintMore

/-- slices.Sort of a row of the call's own. -/
theorem sort_own (v : Value) (L : List Int) (base : Nat) (ok : Nat → Prop) (w : World) (HO : Kd.R (Kd.int .i64) 3 w base ok v L) (hl : L.length < 4611686018427387904) :
    Calls Try.prog 59 #[v] w fun e w' => e = .returned (.tuple #[]) ∧ Kd.R (Kd.int .i64) 3 w' base ok v (L.mergeSort fun x y => decide (x ≤ y)) ∧ w.grownBy w' v.ownBlock := by
  have ho := Kd.own_of_R HO
  rcases ho.2 with ⟨e1, e2⟩ | ⟨g, cap, cur, e1, h1, h2, h3, h4, h5, h6⟩
  · obtain rfl : L = [] := List.length_eq_zero_iff.mp e2
    subst e1
    refine (Any.slices_Sort_int_none lays_Sort none 0 w).mono ?_
    rintro e w' ⟨rfl, rfl⟩
    refine ⟨rfl, ?_, ⟨rfl, rfl, rfl, Nat.le_refl _, fun _ _ _ => rfl⟩⟩
    simpa using HO
  · subst e1
    have hH := holds_of_blockI (ss := L) h2 (by rw [Nat.mul_one] at h6; exact h6)
    refine (Any.slices_Sort_int lays_Sort g 0 cap L w hH (Array.getElem?_eq_some_iff.1 h2).1 hl).mono ?_
    rintro e w' ⟨rfl, n, os, rfl⟩
    refine ⟨rfl, ?_, grownBy_sortedI _⟩
    have hlen : (L.mergeSort fun x y => decide (x ≤ y)).length = L.length := List.length_mergeSort _
    refine Kd.R_of_own ?_ HO.1
    have := ownsRow_sortedI (n := n) (os := os) (ss := L) (ts := L.mergeSort fun x y => decide (x ≤ y)) hlen h1 h2 h3 h4 h5
    rw [hlen]
    exact this

/-! ### the set of a list's elements, in increasing order -/
def hwith : List Int → Int → List Int
  | [], n => [n]
  | x :: t, n => if x < n then x :: hwith t n else if x = n then x :: t else n :: x :: t
def hset (l : List Int) : List Int := l.foldl hwith []

theorem mem_hwith (n y : Int) : ∀ l : List Int, y ∈ hwith l n ↔ y = n ∨ y ∈ l
  | [] => by simp [hwith]
  | x :: t => by
    unfold hwith
    split
    · rw [List.mem_cons, mem_hwith n y t, List.mem_cons]
      constructor
      · rintro (h | h | h)
        · exact .inr (.inl h)
        · exact .inl h
        · exact .inr (.inr h)
      · rintro (h | h | h)
        · exact .inr (.inl h)
        · exact .inl h
        · exact .inr (.inr h)
    · split
      · rename_i h; subst h; simp
      · simp
theorem sorted_hwith (n : Int) : ∀ l : List Int, l.Pairwise (· < ·) → (hwith l n).Pairwise (· < ·)
  | [], _ => by simp [hwith]
  | x :: t, h => by
    have hc := List.pairwise_cons.mp h
    unfold hwith
    split
    · rename_i h1
      refine List.pairwise_cons.mpr ⟨fun y hy => ?_, sorted_hwith n t hc.2⟩
      rcases (mem_hwith n y t).mp hy with rfl | hy
      · exact h1
      · exact hc.1 y hy
    · split
      · exact h
      · refine List.pairwise_cons.mpr ⟨fun y hy => ?_, h⟩
        rcases List.mem_cons.mp hy with rfl | hy
        · omega
        · have := hc.1 y hy; omega
theorem hfold_facts : ∀ (l acc : List Int), acc.Pairwise (· < ·) → (l.foldl hwith acc).Pairwise (· < ·) ∧ ∀ y, y ∈ l.foldl hwith acc ↔ y ∈ acc ∨ y ∈ l
  | [], acc, h => ⟨h, fun y => by simp⟩
  | x :: t, acc, h => by
    obtain ⟨h1, h2⟩ := hfold_facts t (hwith acc x) (sorted_hwith x acc h)
    refine ⟨h1, fun y => ?_⟩
    rw [List.foldl_cons, h2, mem_hwith, List.mem_cons]
    constructor
    · rintro ((h | h) | h)
      · exact .inr (.inl h)
      · exact .inl h
      · exact .inr (.inr h)
    · rintro (h | h | h)
      · exact .inl (.inr h)
      · exact .inl (.inl h)
      · exact .inr h
theorem hset_sorted (l : List Int) : (hset l).Pairwise (· < ·) := (hfold_facts l [] List.Pairwise.nil).1
theorem mem_hset (l : List Int) (y : Int) : y ∈ hset l ↔ y ∈ l := by
  unfold hset
  rw [(hfold_facts l [] List.Pairwise.nil).2]
  simp
/-- Lists in increasing order with the same elements are one. -/
theorem sorted_ext : ∀ (l m : List Int), l.Pairwise (· < ·) → m.Pairwise (· < ·) → (∀ y, y ∈ l ↔ y ∈ m) → l = m
  | [], [], _, _, _ => rfl
  | [], y :: m, _, _, h => by have := (h y).mpr (by simp); simp at this
  | x :: l, [], _, _, h => by have := (h x).mp (by simp); simp at this
  | x :: l, y :: m, h1, h2, h => by
    have c1 := List.pairwise_cons.mp h1
    have c2 := List.pairwise_cons.mp h2
    have e : x = y := by
      rcases List.mem_cons.mp ((h x).mp (by simp)) with e | e
      · exact e
      · rcases List.mem_cons.mp ((h y).mpr (by simp)) with e' | e'
        · exact e'.symm
        · have := c1.1 y e'; have := c2.1 x e; omega
    subst e
    rw [sorted_ext l m c1.2 c2.2 (fun z => ?_)]
    constructor
    · intro hz
      rcases List.mem_cons.mp ((h z).mp (List.mem_cons_of_mem _ hz)) with e | e
      · have := c1.1 z hz; omega
      · exact e
    · intro hz
      rcases List.mem_cons.mp ((h z).mpr (List.mem_cons_of_mem _ hz)) with e | e
      · have := c2.1 z hz; omega
      · exact e
theorem sort_nodup (L l : List Int) (hn : L.Nodup) (h : ∀ y, y ∈ L ↔ y ∈ l) : (L.mergeSort fun x y => decide (x ≤ y)) = hset l := by
  refine sorted_ext _ _ ?_ (hset_sorted l) (fun y => by rw [mem_hset, ← h, List.mem_mergeSort])
  have h1 : (L.mergeSort fun x y => decide (x ≤ y)).Pairwise (fun x y => decide (x ≤ y) = true) := List.pairwise_mergeSort (fun a b c h1 h2 => by simp at *; omega) (fun a b => by simp; omega) L
  have h2 : (L.mergeSort fun x y => decide (x ≤ y)).Nodup := (List.mergeSort_perm L _).nodup_iff.mpr hn
  exact (h1.and h2).imp (fun ⟨h1, h2⟩ => by simp at h1; omega)

/-! ### the map -/
def bval (A B : List Int) (x : Int) : Int := (if x ∈ A then 1 else 0) + (if x ∈ B then 2 else 0)

/-- Block b is the map that says in which of two lists a number is. -/
def BM (w : World) (b : Nat) (A B : List Int) : Prop := ∃ D : DataW Nat, w.ownsMap Try.prog 3 (plainElem Try.prog 80) b (A.length + B.length) D ∧ (∀ x, D.atKey (.int .i64 x) (.lit (.int .u64 0)) = .lit (.int .u64 (bval A B x))) ∧ ∀ x, Maps.has D (.int .i64 x) = decide (x ∈ A ∨ x ∈ B)

theorem bm_made (w : World) : BM (w.alloc (.map #[] 0)) w.heap.size [] [] :=
  ⟨.map [], World.ownsMap_made w Try.prog 3 _, fun x => by simp [DataW.atKey, bval], fun x => by simp [Maps.has_eq]⟩
theorem law3 : Maps.Keyed Try.prog 3 := Maps.int_keyed Try.underlying3

set_option maxRecDepth 100000 in
/-- 'in[x] |= 1 << k': A' and B' with x in one of them. -/
theorem bm_step (w : World) (b : Nat) (A B A' B' : List Int) (x : Int) (hx : (Lit.int .i64 x).wf = true) (h : BM w b A B) (hl : A'.length + B'.length = A.length + B.length + 1) (hm : A.length + B.length < maxLen)
    (ha : ∀ y, y ≠ x → (y ∈ A' ↔ y ∈ A)) (hb : ∀ y, y ≠ x → (y ∈ B' ↔ y ∈ B)) (hx2 : x ∈ A' ∨ x ∈ B') :
    (Instr.lookup 100 (.map (some b)) (.int .i64 x) false).run Try.prog w = .ok (.int .u64 (bval A B x)) w ∧
    ∃ w1, (Instr.mapUpdate 100 (.map (some b)) (.int .i64 x) (.int .u64 (bval A' B' x))).run Try.prog w = .ok () w1 ∧ BM w1 b A' B' ∧ w.grownBy w1 (some b) := by
  obtain ⟨D, h1, h2, h3⟩ := h
  have hk : keyOf Try.prog 3 (.int .i64 x) = some (.int .i64 x) := Maps.keyOf_int_mk Try.underlying3 hx
  have hz : (zeroValue 80).run Try.prog w = .ok (.int .u64 0) w := Try.zeroValue80 w
  obtain ⟨c, hrun, hat, hwc⟩ := h1.lookup_int law3 Try.underlying100 Try.underlying80 hz hk
  rw [h2 x] at hat
  have e : bval A B x = c := by injection hat with hat; injection hat
  have hv : (Lit.int .u64 (bval A' B' x)).wf = true := by unfold bval; split <;> split <;> decide
  obtain ⟨w1, r1, r2, r3⟩ := h1.update law3 Try.underlying100 hm hk (plainElem_int Try.underlying80 hv)
  refine ⟨by rw [e]; exact hrun, w1, r1, ⟨_, by rw [hl]; exact r2, fun y => ?_, fun y => ?_⟩, r3⟩
  · by_cases hy : y = x
    · subst hy; rw [Maps.atKey_put_same h1.isMap (k := .int .i64 y) trivial]
    · rw [Maps.atKey_put_other (by intro h; injection h with _ h; exact hy h), h2 y]
      unfold bval
      simp only [ha y hy, hb y hy]
  · by_cases hy : y = x
    · subst hy; rw [Maps.has_put_same h1.isMap (k := .int .i64 y) trivial, decide_eq_true hx2]
    · rw [Maps.has_put_other (by intro h; injection h with _ h; exact hy h), h3 y]
      simp only [ha y hy, hb y hy]

end Go.Proofs.Ytlgkeaildncojaa.Q
end

-- Written by wip/tools/myprint.py, a program of this session that drives the kit's print.py; not a text of print.sh.
import Derived.Test.YtmgiapmkggkmhaaQx0
import Derived.Test.YtmgiapmkggkmhaaQx2
import Derived.Test.YtmgiapmkggkmhaaQx3
import Derived.Test.YtmgiapmkggkmhaaQx6
namespace Go.Proofs.Ytmgiapmkggkmhaa.Q
open Go.RowKit Go.Proofs.YtmgiapmkggkmhaaW.PrintWords Go.Proofs.YtmgiapmkggkmhaaW.PrintLast Go.Proofs.YtmgiapmkggkmhaaW.PrintMore
attribute [local go_sem] max2_int min2_int max_two min_two max_three min_three max_four min_four   -- for this text's walks alone
set_option linter.unusedVariables false
set_option linter.unusedSimpArgs false

/-! ### abugidalaw05_CharsCodes: function 4 -/
mutual
def abugidalaw05_CharsCodes.l0 : Nat → Bool → Int → Int → Int → Option (Bool)
  | 0, _, _, _, _ => none
  | k + 1, x3, x5, x204000, x204001 => if x5 < 2 then (if x5 = 0 then ((chars_Codes.f k x204000).bind fun t204 => ((abugidaref05_Codes.f k x204000).bind fun t207 => (if (t204.length : Int) = (t207.length : Int) then (abugidalaw05_CharsCodes.l1 k x3 x5 t204 t207 0 x204000 x204001) else (some false)))) else (if x5 = 1 then ((chars_Codes.f k x204001).bind fun t212 => ((abugidaref05_Codes.f k x204001).bind fun t215 => (if (t212.length : Int) = (t215.length : Int) then (abugidalaw05_CharsCodes.l1 k x3 x5 t212 t215 0 x204000 x204001) else (some false)))) else (none))) else (some x3)
def abugidalaw05_CharsCodes.l1 : Nat → Bool → Int → List Int → List Int → Int → Int → Int → Option (Bool)
  | 0, _, _, _, _, _, _, _ => none
  | k + 1, x3, x5, x6, x7, x8, x204000, x204001 => if x8 < (x6.length : Int) then (if 0 ≤ x8 then (if x8 < (x7.length : Int) then (if (rd x6 x8) = (rd x7 x8) then (abugidalaw05_CharsCodes.l1 k x3 x5 x6 x7 (wrap64 (x8 + 1)) x204000 x204001) else (some false)) else (none)) else (none)) else (abugidalaw05_CharsCodes.l0 k x3 (wrap64 (x5 + 1)) x204000 x204001)
end
def abugidalaw05_CharsCodes.f (k : Nat) (a0 : Int) : Option (Bool) := (abugidalaw05_sanity.f k).bind fun t202 => (abugidalaw05_CharsCodes.l0 k t202 0 a0 (Go.bits .and .i64 a0 3))
theorem abugidalaw05_CharsCodes.mono_l : ∀ k, (∀ y0 y1 y2 y3, LeO (abugidalaw05_CharsCodes.l0 k y0 y1 y2 y3) (abugidalaw05_CharsCodes.l0 (k + 1) y0 y1 y2 y3)) ∧ (∀ y0 y1 y2 y3 y4 y5 y6, LeO (abugidalaw05_CharsCodes.l1 k y0 y1 y2 y3 y4 y5 y6) (abugidalaw05_CharsCodes.l1 (k + 1) y0 y1 y2 y3 y4 y5 y6))
  | 0 => ⟨fun _ _ _ _ r h => by simp [abugidalaw05_CharsCodes.l0] at h, fun _ _ _ _ _ _ _ r h => by simp [abugidalaw05_CharsCodes.l1] at h⟩
  | k + 1 => by
    obtain ⟨ih0, ih1⟩ := abugidalaw05_CharsCodes.mono_l k
    refine ⟨?_, ?_⟩
    · intro y0 y1 y2 y3
      unfold abugidalaw05_CharsCodes.l0
      repeat' first
      | (with_reducible exact ih0 _ _ _ _)
      | (with_reducible exact ih1 _ _ _ _ _ _ _)
      | (with_reducible exact abugidalaw05_sanity.mono _)
      | (with_reducible exact abugidaref05_Codes.mono _ _)
      | (with_reducible exact chars_Codes.mono _ _)
      | (with_reducible exact LeO.refl _)
      | (with_reducible exact LeO.none _)
      | (with_reducible refine LeO.ite ?_ ?_)
      | (with_reducible refine LeO.bind ?_ (fun _ => ?_))
      | exact ih0 _ _ _ _
      | exact ih1 _ _ _ _ _ _ _
      | exact abugidalaw05_sanity.mono _
      | exact abugidaref05_Codes.mono _ _
      | exact chars_Codes.mono _ _
      | exact LeO.none _
      | refine LeO.ite ?_ ?_
      | refine LeO.bind ?_ (fun _ => ?_)
    · intro y0 y1 y2 y3 y4 y5 y6
      unfold abugidalaw05_CharsCodes.l1
      repeat' first
      | (with_reducible exact ih0 _ _ _ _)
      | (with_reducible exact ih1 _ _ _ _ _ _ _)
      | (with_reducible exact abugidalaw05_sanity.mono _)
      | (with_reducible exact abugidaref05_Codes.mono _ _)
      | (with_reducible exact chars_Codes.mono _ _)
      | (with_reducible exact LeO.refl _)
      | (with_reducible exact LeO.none _)
      | (with_reducible refine LeO.ite ?_ ?_)
      | (with_reducible refine LeO.bind ?_ (fun _ => ?_))
      | exact ih0 _ _ _ _
      | exact ih1 _ _ _ _ _ _ _
      | exact abugidalaw05_sanity.mono _
      | exact abugidaref05_Codes.mono _ _
      | exact chars_Codes.mono _ _
      | exact LeO.none _
      | refine LeO.ite ?_ ?_
      | refine LeO.bind ?_ (fun _ => ?_)
theorem abugidalaw05_CharsCodes.mono : ∀ a0 k, LeO (abugidalaw05_CharsCodes.f k a0) (abugidalaw05_CharsCodes.f (k + 1) a0) := by
  intro a0 k
  obtain ⟨ih0, ih1⟩ := abugidalaw05_CharsCodes.mono_l k
  unfold abugidalaw05_CharsCodes.f
  repeat' first
      | (with_reducible exact ih0 _ _ _ _)
      | (with_reducible exact ih1 _ _ _ _ _ _ _)
      | (with_reducible exact abugidalaw05_sanity.mono _)
      | (with_reducible exact abugidaref05_Codes.mono _ _)
      | (with_reducible exact chars_Codes.mono _ _)
      | (with_reducible exact LeO.refl _)
      | (with_reducible exact LeO.none _)
      | (with_reducible refine LeO.ite ?_ ?_)
      | (with_reducible refine LeO.bind ?_ (fun _ => ?_))
      | exact ih0 _ _ _ _
      | exact ih1 _ _ _ _ _ _ _
      | exact abugidalaw05_sanity.mono _
      | exact abugidaref05_Codes.mono _ _
      | exact chars_Codes.mono _ _
      | exact LeO.none _
      | refine LeO.ite ?_ ?_
      | refine LeO.bind ?_ (fun _ => ?_)
set_option maxHeartbeats 8000000 in
set_option maxRecDepth 100000 in
theorem abugidalaw05_CharsCodes.calls (k : Nat) (a0 : Int) (r : Bool) (w : World) (h : abugidalaw05_CharsCodes.f k a0 = some r) :
    Calls Try.prog 4 #[.int .i64 a0] w fun e w' => e = .returned (.bool r) ∧ Below w.heap.size w w' := by
  have hu23 := Try.underlying23
  have HB := Aside0.mk (Below.refl w.heap.size w)
  have H : ((abugidalaw05_sanity.f k).bind fun t202 => (abugidalaw05_CharsCodes.l0 k t202 0 a0 (Go.bits .and .i64 a0 3))) = some r := h
  clear h
  replace H := Option.bind_eq_some_iff.mp H
  obtain ⟨t202, A20, H⟩ := H
  replace H : (abugidalaw05_CharsCodes.l0 k t202 0 a0 (Go.bits .and .i64 a0 3)) = some r := H
  have A2 := Aside0.mk A20
  clear A20
  have H' := Aside0.mk H
  clear H
  go_enter Try.func4, Try.ntmps4
  go_wp2_with (first | (go_at_call 8; (with_reducible refine (abugidalaw05_sanity.calls k  t202 _ A2.out).mono ?_); rintro e w3 ⟨rfl, hb⟩; have n0_ := Aside0.mk (below_step (by repeat (first | (with_reducible first | exact HB.out | apply below_alloc | apply pw_below_drewN | apply below_drew1) | exact HB.out)) hb); clear HB; have HB := n0_; clear n0_; (try clear hb); (try clear hb2); (try clear hk); (try clear hi)) | ((with_reducible refine gate_dst (N := 4) rfl ?_); refine box_event ?hg (N := 4) ?hd (cs := #[.int .i64 0, .int .i64 0]) (t := 23) ?hr ?_; (case hd => rfl); (case hg => rfl); (case hr => first | (go_simp; done) | (go_simp; rfl)); intro gb203 hg w4 hbox hb; have n0_ := Aside0.mk (below_step (by repeat (first | (with_reducible first | exact HB.out | apply below_alloc | apply pw_below_drewN | apply below_drew1) | exact HB.out)) hb); have n1_ := Aside0.mk (hbox); have n2_ := Aside0.mk ((by rw [hg]; exact (below_size (by repeat (first | (with_reducible first | exact HB.out | apply below_alloc | apply pw_below_drewN | apply below_drew1) | exact HB.out))) : w.heap.size ≤ gb203)); have n3_ := Aside0.mk ((by rw [hg]; exact (below_size (by repeat (first | (with_reducible first | exact HB.out | apply below_alloc | apply pw_below_drewN | apply below_drew1) | exact HB.out))) : w.heap.size ≤ gb203)); clear HB; have HB := n0_; have BK203 := n1_; have GW203 := n2_; have GE203 := n3_; clear n0_ n1_ n2_ n3_; clear hb hbox hg; have hcz5_0 : w4.cell? ⟨gb203, 0, none⟩ = some (.int .i64 0) := (blk_cell BK203.out 0).trans rfl; have hcz5_1 : w4.cell? ⟨gb203, 1, none⟩ = some (.int .i64 0) := (blk_cell BK203.out 1).trans rfl; have hfz5_0 := blk_frozen BK203.out 0; have hfz5_1 := blk_frozen BK203.out 1))
  repeat (go_quiet (first | (go_at_call 8; (with_reducible refine (abugidalaw05_sanity.calls k  t202 _ A2.out).mono ?_); rintro e w3 ⟨rfl, hb⟩; have n0_ := Aside0.mk (below_step (by repeat (first | (with_reducible first | exact HB.out | apply below_alloc | apply pw_below_drewN | apply below_drew1) | exact HB.out)) hb); clear HB; have HB := n0_; clear n0_; (try clear hb); (try clear hb2); (try clear hk); (try clear hi)) | ((with_reducible refine gate_dst (N := 4) rfl ?_); refine box_event ?hg (N := 4) ?hd (cs := #[.int .i64 0, .int .i64 0]) (t := 23) ?hr ?_; (case hd => rfl); (case hg => rfl); (case hr => first | (go_simp; done) | (go_simp; rfl)); intro gb203 hg w4 hbox hb; have n0_ := Aside0.mk (below_step (by repeat (first | (with_reducible first | exact HB.out | apply below_alloc | apply pw_below_drewN | apply below_drew1) | exact HB.out)) hb); have n1_ := Aside0.mk (hbox); have n2_ := Aside0.mk ((by rw [hg]; exact (below_size (by repeat (first | (with_reducible first | exact HB.out | apply below_alloc | apply pw_below_drewN | apply below_drew1) | exact HB.out))) : w.heap.size ≤ gb203)); have n3_ := Aside0.mk ((by rw [hg]; exact (below_size (by repeat (first | (with_reducible first | exact HB.out | apply below_alloc | apply pw_below_drewN | apply below_drew1) | exact HB.out))) : w.heap.size ≤ gb203)); clear HB; have HB := n0_; have BK203 := n1_; have GW203 := n2_; have GE203 := n3_; clear n0_ n1_ n2_ n3_; clear hb hbox hg; have hcz5_0 : w4.cell? ⟨gb203, 0, none⟩ = some (.int .i64 0) := (blk_cell BK203.out 0).trans rfl; have hcz5_1 : w4.cell? ⟨gb203, 1, none⟩ = some (.int .i64 0) := (blk_cell BK203.out 1).trans rfl; have hfz5_0 := blk_frozen BK203.out 0; have hfz5_1 := blk_frozen BK203.out 1)); try go_wp2_with (first | (go_at_call 8; (with_reducible refine (abugidalaw05_sanity.calls k  t202 _ A2.out).mono ?_); rintro e w3 ⟨rfl, hb⟩; have n0_ := Aside0.mk (below_step (by repeat (first | (with_reducible first | exact HB.out | apply below_alloc | apply pw_below_drewN | apply below_drew1) | exact HB.out)) hb); clear HB; have HB := n0_; clear n0_; (try clear hb); (try clear hb2); (try clear hk); (try clear hi)) | ((with_reducible refine gate_dst (N := 4) rfl ?_); refine box_event ?hg (N := 4) ?hd (cs := #[.int .i64 0, .int .i64 0]) (t := 23) ?hr ?_; (case hd => rfl); (case hg => rfl); (case hr => first | (go_simp; done) | (go_simp; rfl)); intro gb203 hg w4 hbox hb; have n0_ := Aside0.mk (below_step (by repeat (first | (with_reducible first | exact HB.out | apply below_alloc | apply pw_below_drewN | apply below_drew1) | exact HB.out)) hb); have n1_ := Aside0.mk (hbox); have n2_ := Aside0.mk ((by rw [hg]; exact (below_size (by repeat (first | (with_reducible first | exact HB.out | apply below_alloc | apply pw_below_drewN | apply below_drew1) | exact HB.out))) : w.heap.size ≤ gb203)); have n3_ := Aside0.mk ((by rw [hg]; exact (below_size (by repeat (first | (with_reducible first | exact HB.out | apply below_alloc | apply pw_below_drewN | apply below_drew1) | exact HB.out))) : w.heap.size ≤ gb203)); clear HB; have HB := n0_; have BK203 := n1_; have GW203 := n2_; have GE203 := n3_; clear n0_ n1_ n2_ n3_; clear hb hbox hg; have hcz5_0 : w4.cell? ⟨gb203, 0, none⟩ = some (.int .i64 0) := (blk_cell BK203.out 0).trans rfl; have hcz5_1 : w4.cell? ⟨gb203, 1, none⟩ = some (.int .i64 0) := (blk_cell BK203.out 1).trans rfl; have hfz5_0 := blk_frozen BK203.out 0; have hfz5_1 := blk_frozen BK203.out 1)))
  go_loopg [5] k (fun kq v5 w' => ∃ (x5_1 : Int), v5 = .int .i64 x5_1 ∧ Aside0 (abugidalaw05_CharsCodes.l0 kq t202 x5_1 a0 (Go.bits .and .i64 a0 3) = some r) ∧ Aside0 (kq ≤ k) ∧ Aside0 (w'.heap[gb203]? = some (.cells #[.int .i64 a0, .int .i64 (Go.bits .and .i64 a0 3)] 23 (0, 0))) ∧ Aside0 (Below w.heap.size w w'))
  case atStart => exact ⟨(0), (by first | rfl | (simp; done) | (simp [*]; done)), H', ⟨Nat.le_refl _⟩, ⟨by (with_reducible repeat (first | refine blk_drewN ?_ _ | refine blk_drew ?_ | refine blk_alloc ?_ _)); refine blk_put (cs := #[.int .i64 a0, .int .i64 0]) ?_ 1 _ rfl; (with_reducible repeat (first | refine blk_drewN ?_ _ | refine blk_drew ?_ | refine blk_alloc ?_ _)); refine blk_put (cs := #[.int .i64 0, .int .i64 0]) ?_ 0 _ rfl; (with_reducible repeat (first | refine blk_drewN ?_ _ | refine blk_drew ?_ | refine blk_alloc ?_ _)); exact BK203.out⟩, ⟨by repeat (first | (with_reducible first | exact HB.out | apply below_alloc | apply pw_below_drewN | apply below_drew1 | refine below_set ?_ GE203.out) | exact HB.out)⟩⟩
  case round =>
    clear H'
    try clear p2
    try clear c4
    try clear hcz5_0
    try clear hcz5_1
    try clear hfz5_0
    try clear hfz5_1
    obtain ⟨x5_1, rfl, HA, HK1, BK203, HB⟩ := hrel
    cases gk with
    | zero => exact absurd HA.out (by simp [abugidalaw05_CharsCodes.l0])
    | succ k1 =>
      have H := HA.out
      clear HA
      simp only [abugidalaw05_CharsCodes.l0] at H
      by_cases c6 : x5_1 < 2
      · rw [if_pos c6] at H
        have c6b0 : decide (x5_1 < 2) = true := decide_eq_true c6
        clear c6
        by_cases c7 : x5_1 = 0
        · rw [if_pos c7] at H
          have c7b0 : (x5_1 == 0) = true := beq_iff_eq.mpr c7
          have c7b1 : (x5_1 != 0) = false := bne_eq_false_iff_eq.mpr c7
          clear c7
          have hix8 : ∀ (g_ : Nat) (w_ : World), (Instr.indexAt 23 (.pointer (some ⟨g_, 0, none⟩)) (.int .i64 x5_1)).run Try.prog w_ = .ok (.pointer (some ⟨g_, 0, none⟩)) w_ := fun g_ w_ => (congrArg (fun z_ => (Instr.indexAt 23 (.pointer (some ⟨g_, 0, none⟩)) (.int .i64 z_)).run Try.prog w_) (eq_of_beq (by assumption) : x5_1 = 0)).trans (by kernel_rfl)
          replace H := Option.bind_eq_some_iff.mp H
          obtain ⟨t204, A90, H⟩ := H
          replace H : ((abugidaref05_Codes.f k1 a0).bind fun t207 => (if (t204.length : Int) = (t207.length : Int) then (abugidalaw05_CharsCodes.l1 k1 t202 x5_1 t204 t207 0 a0 (Go.bits .and .i64 a0 3)) else (some false))) = some r := H
          have A9 := Aside0.mk A90
          clear A90
          have hix10 : ∀ (g_ : Nat) (w_ : World), (Instr.indexAt 23 (.pointer (some ⟨g_, 0, none⟩)) (.int .i64 x5_1)).run Try.prog w_ = .ok (.pointer (some ⟨g_, 0, none⟩)) w_ := fun g_ w_ => (congrArg (fun z_ => (Instr.indexAt 23 (.pointer (some ⟨g_, 0, none⟩)) (.int .i64 z_)).run Try.prog w_) (eq_of_beq (by assumption) : x5_1 = 0)).trans (by kernel_rfl)
          replace H := Option.bind_eq_some_iff.mp H
          obtain ⟨t207, A110, H⟩ := H
          replace H : (if (t204.length : Int) = (t207.length : Int) then (abugidalaw05_CharsCodes.l1 k1 t202 x5_1 t204 t207 0 a0 (Go.bits .and .i64 a0 3)) else (some false)) = some r := H
          have A11 := Aside0.mk A110
          clear A110
          by_cases c12 : (t204.length : Int) = (t207.length : Int)
          · rw [if_pos c12] at H
            have c12b0 : ((t204.length : Int) == (t207.length : Int)) = true := beq_iff_eq.mpr c12
            have c12b1 : ((t204.length : Int) != (t207.length : Int)) = false := bne_eq_false_iff_eq.mpr c12
            have c12b2 : (t204.length == t207.length) = true := by first | simpa using c12 | (simp at c12 ⊢; omega)
            clear c12
            have H' := Aside0.mk H
            clear H
            have hcz13_0 : wr.cell? ⟨gb203, 0, none⟩ = some (.int .i64 a0) := (blk_cell BK203.out 0).trans rfl
            have hcz13_1 : wr.cell? ⟨gb203, 1, none⟩ = some (.int .i64 (Go.bits .and .i64 a0 3)) := (blk_cell BK203.out 1).trans rfl
            have hfz13_0 := blk_frozen BK203.out 0
            have hfz13_1 := blk_frozen BK203.out 1
            go_wp2_with (first | (go_at_call 16; (with_reducible refine (chars_Codes.calls k1 a0 t204 _ A9.out).mono ?_); rintro e w14 ⟨v205, rfl, ho0, hb⟩; have n0_ := Aside0.mk (Kd.R_lower ho0 (below_size (by repeat (first | (with_reducible first | exact HB.out | apply below_alloc | apply pw_below_drewN | apply below_drew1 | refine below_set ?_ GE203.out) | exact HB.out)))); have n1_ := Aside0.mk (blk_below (g := gb203) (o := .cells #[.int .i64 a0, .int .i64 (Go.bits .and .i64 a0 3)] 23 (0, 0)) (by (with_reducible repeat (first | refine blk_drewN ?_ _ | refine blk_drew ?_ | refine blk_alloc ?_ _)); exact BK203.out) hb); have n2_ := Aside0.mk (below_step (by repeat (first | (with_reducible first | exact HB.out | apply below_alloc | apply pw_below_drewN | apply below_drew1 | refine below_set ?_ GE203.out) | exact HB.out)) hb); clear BK203; clear HB; have HO206 := n0_; have BK203 := n1_; have HB := n2_; clear n0_ n1_ n2_; (try clear hb); (try clear hb2); (try clear hk); (try clear hi); (try clear ho0); have hcz15_0 : w14.cell? ⟨gb203, 0, none⟩ = some (.int .i64 a0) := (blk_cell BK203.out 0).trans rfl; have hcz15_1 : w14.cell? ⟨gb203, 1, none⟩ = some (.int .i64 (Go.bits .and .i64 a0 3)) := (blk_cell BK203.out 1).trans rfl; have hfz15_0 := blk_frozen BK203.out 0; have hfz15_1 := blk_frozen BK203.out 1) | (go_at_call 17; (with_reducible refine (abugidaref05_Codes.calls k1 a0 t207 _ A11.out).mono ?_); rintro e w16 ⟨v208, rfl, ho0, hb⟩; have n0_ := Aside0.mk (Kd.R_elder' (by (with_reducible repeat (first | apply Kd.R_alloc | apply Kd.R_drewN | apply Kd.R_drew)); exact HO206.out) (Kd.R_base ho0) hb); have n1_ := Aside0.mk (Kd.R_lower (Kd.R_new' ho0 (Kd.R_lt (by (with_reducible repeat (first | apply Kd.R_alloc | apply Kd.R_drewN | apply Kd.R_drew)); exact HO206.out))) (below_size (by repeat (first | (with_reducible first | exact HB.out | apply below_alloc | apply pw_below_drewN | apply below_drew1 | refine below_set ?_ GE203.out) | exact HB.out)))); have n2_ := Aside0.mk (blk_below (g := gb203) (o := .cells #[.int .i64 a0, .int .i64 (Go.bits .and .i64 a0 3)] 23 (0, 0)) (by (with_reducible repeat (first | refine blk_drewN ?_ _ | refine blk_drew ?_ | refine blk_alloc ?_ _)); exact BK203.out) hb); have n3_ := Aside0.mk (below_step (by repeat (first | (with_reducible first | exact HB.out | apply below_alloc | apply pw_below_drewN | apply below_drew1 | refine below_set ?_ GE203.out) | exact HB.out)) hb); clear HO206; clear BK203; clear HB; have HO206 := n0_; have HO209 := n1_; have BK203 := n2_; have HB := n3_; clear n0_ n1_ n2_ n3_; (try clear hb); (try clear hb2); (try clear hk); (try clear hi); (try clear ho0); obtain ⟨Ao17, co17, eo17⟩ := Kd.R_slice HO206.out; subst eo17; obtain ⟨Ao18, co18, eo18⟩ := Kd.R_slice HO209.out; subst eo18))
            repeat (go_quiet (first | (go_at_call 16; (with_reducible refine (chars_Codes.calls k1 a0 t204 _ A9.out).mono ?_); rintro e w14 ⟨v205, rfl, ho0, hb⟩; have n0_ := Aside0.mk (Kd.R_lower ho0 (below_size (by repeat (first | (with_reducible first | exact HB.out | apply below_alloc | apply pw_below_drewN | apply below_drew1 | refine below_set ?_ GE203.out) | exact HB.out)))); have n1_ := Aside0.mk (blk_below (g := gb203) (o := .cells #[.int .i64 a0, .int .i64 (Go.bits .and .i64 a0 3)] 23 (0, 0)) (by (with_reducible repeat (first | refine blk_drewN ?_ _ | refine blk_drew ?_ | refine blk_alloc ?_ _)); exact BK203.out) hb); have n2_ := Aside0.mk (below_step (by repeat (first | (with_reducible first | exact HB.out | apply below_alloc | apply pw_below_drewN | apply below_drew1 | refine below_set ?_ GE203.out) | exact HB.out)) hb); clear BK203; clear HB; have HO206 := n0_; have BK203 := n1_; have HB := n2_; clear n0_ n1_ n2_; (try clear hb); (try clear hb2); (try clear hk); (try clear hi); (try clear ho0); have hcz15_0 : w14.cell? ⟨gb203, 0, none⟩ = some (.int .i64 a0) := (blk_cell BK203.out 0).trans rfl; have hcz15_1 : w14.cell? ⟨gb203, 1, none⟩ = some (.int .i64 (Go.bits .and .i64 a0 3)) := (blk_cell BK203.out 1).trans rfl; have hfz15_0 := blk_frozen BK203.out 0; have hfz15_1 := blk_frozen BK203.out 1) | (go_at_call 17; (with_reducible refine (abugidaref05_Codes.calls k1 a0 t207 _ A11.out).mono ?_); rintro e w16 ⟨v208, rfl, ho0, hb⟩; have n0_ := Aside0.mk (Kd.R_elder' (by (with_reducible repeat (first | apply Kd.R_alloc | apply Kd.R_drewN | apply Kd.R_drew)); exact HO206.out) (Kd.R_base ho0) hb); have n1_ := Aside0.mk (Kd.R_lower (Kd.R_new' ho0 (Kd.R_lt (by (with_reducible repeat (first | apply Kd.R_alloc | apply Kd.R_drewN | apply Kd.R_drew)); exact HO206.out))) (below_size (by repeat (first | (with_reducible first | exact HB.out | apply below_alloc | apply pw_below_drewN | apply below_drew1 | refine below_set ?_ GE203.out) | exact HB.out)))); have n2_ := Aside0.mk (blk_below (g := gb203) (o := .cells #[.int .i64 a0, .int .i64 (Go.bits .and .i64 a0 3)] 23 (0, 0)) (by (with_reducible repeat (first | refine blk_drewN ?_ _ | refine blk_drew ?_ | refine blk_alloc ?_ _)); exact BK203.out) hb); have n3_ := Aside0.mk (below_step (by repeat (first | (with_reducible first | exact HB.out | apply below_alloc | apply pw_below_drewN | apply below_drew1 | refine below_set ?_ GE203.out) | exact HB.out)) hb); clear HO206; clear BK203; clear HB; have HO206 := n0_; have HO209 := n1_; have BK203 := n2_; have HB := n3_; clear n0_ n1_ n2_ n3_; (try clear hb); (try clear hb2); (try clear hk); (try clear hi); (try clear ho0); obtain ⟨Ao17, co17, eo17⟩ := Kd.R_slice HO206.out; subst eo17; obtain ⟨Ao18, co18, eo18⟩ := Kd.R_slice HO209.out; subst eo18)); try go_wp2_with (first | (go_at_call 16; (with_reducible refine (chars_Codes.calls k1 a0 t204 _ A9.out).mono ?_); rintro e w14 ⟨v205, rfl, ho0, hb⟩; have n0_ := Aside0.mk (Kd.R_lower ho0 (below_size (by repeat (first | (with_reducible first | exact HB.out | apply below_alloc | apply pw_below_drewN | apply below_drew1 | refine below_set ?_ GE203.out) | exact HB.out)))); have n1_ := Aside0.mk (blk_below (g := gb203) (o := .cells #[.int .i64 a0, .int .i64 (Go.bits .and .i64 a0 3)] 23 (0, 0)) (by (with_reducible repeat (first | refine blk_drewN ?_ _ | refine blk_drew ?_ | refine blk_alloc ?_ _)); exact BK203.out) hb); have n2_ := Aside0.mk (below_step (by repeat (first | (with_reducible first | exact HB.out | apply below_alloc | apply pw_below_drewN | apply below_drew1 | refine below_set ?_ GE203.out) | exact HB.out)) hb); clear BK203; clear HB; have HO206 := n0_; have BK203 := n1_; have HB := n2_; clear n0_ n1_ n2_; (try clear hb); (try clear hb2); (try clear hk); (try clear hi); (try clear ho0); have hcz15_0 : w14.cell? ⟨gb203, 0, none⟩ = some (.int .i64 a0) := (blk_cell BK203.out 0).trans rfl; have hcz15_1 : w14.cell? ⟨gb203, 1, none⟩ = some (.int .i64 (Go.bits .and .i64 a0 3)) := (blk_cell BK203.out 1).trans rfl; have hfz15_0 := blk_frozen BK203.out 0; have hfz15_1 := blk_frozen BK203.out 1) | (go_at_call 17; (with_reducible refine (abugidaref05_Codes.calls k1 a0 t207 _ A11.out).mono ?_); rintro e w16 ⟨v208, rfl, ho0, hb⟩; have n0_ := Aside0.mk (Kd.R_elder' (by (with_reducible repeat (first | apply Kd.R_alloc | apply Kd.R_drewN | apply Kd.R_drew)); exact HO206.out) (Kd.R_base ho0) hb); have n1_ := Aside0.mk (Kd.R_lower (Kd.R_new' ho0 (Kd.R_lt (by (with_reducible repeat (first | apply Kd.R_alloc | apply Kd.R_drewN | apply Kd.R_drew)); exact HO206.out))) (below_size (by repeat (first | (with_reducible first | exact HB.out | apply below_alloc | apply pw_below_drewN | apply below_drew1 | refine below_set ?_ GE203.out) | exact HB.out)))); have n2_ := Aside0.mk (blk_below (g := gb203) (o := .cells #[.int .i64 a0, .int .i64 (Go.bits .and .i64 a0 3)] 23 (0, 0)) (by (with_reducible repeat (first | refine blk_drewN ?_ _ | refine blk_drew ?_ | refine blk_alloc ?_ _)); exact BK203.out) hb); have n3_ := Aside0.mk (below_step (by repeat (first | (with_reducible first | exact HB.out | apply below_alloc | apply pw_below_drewN | apply below_drew1 | refine below_set ?_ GE203.out) | exact HB.out)) hb); clear HO206; clear BK203; clear HB; have HO206 := n0_; have HO209 := n1_; have BK203 := n2_; have HB := n3_; clear n0_ n1_ n2_ n3_; (try clear hb); (try clear hb2); (try clear hk); (try clear hi); (try clear ho0); obtain ⟨Ao17, co17, eo17⟩ := Kd.R_slice HO206.out; subst eo17; obtain ⟨Ao18, co18, eo18⟩ := Kd.R_slice HO209.out; subst eo18)))
            go_loopg [8] k1 (fun kq v8 w' => ∃ (x8_2 : Int), v8 = .int .i64 x8_2 ∧ Aside0 (abugidalaw05_CharsCodes.l1 kq t202 x5_1 t204 t207 x8_2 a0 (Go.bits .and .i64 a0 3) = some r) ∧ Aside0 (kq ≤ k1) ∧ Aside0 (Kd.R (Kd.int .i64) 3 w' w.heap.size (fun k_ => some k_ ≠ ((.slice Ao18 t207.length co18) : Value).ownBlock) (.slice Ao17 t204.length co17) t204) ∧ Aside0 (Kd.R (Kd.int .i64) 3 w' w.heap.size (fun k_ => some k_ ≠ ((.slice Ao17 t204.length co17) : Value).ownBlock) (.slice Ao18 t207.length co18) t207) ∧ Aside0 (w'.heap[gb203]? = some (.cells #[.int .i64 a0, .int .i64 (Go.bits .and .i64 a0 3)] 23 (0, 0))) ∧ Aside0 (Below w.heap.size w w'))
            case atStart => exact ⟨(0), (by first | rfl | (simp; done) | (simp [*]; done)), H', ⟨Nat.le_refl _⟩, ⟨by (with_reducible repeat (first | apply Kd.R_alloc | apply Kd.R_drewN | apply Kd.R_drew)); exact Kd.R_mono HO206.out (fun _ hk => hk.2)⟩, ⟨by (with_reducible repeat (first | apply Kd.R_alloc | apply Kd.R_drewN | apply Kd.R_drew)); exact Kd.R_mono HO209.out (fun _ hk => hk.2)⟩, ⟨by (with_reducible repeat (first | refine blk_drewN ?_ _ | refine blk_drew ?_ | refine blk_alloc ?_ _)); exact BK203.out⟩, ⟨by repeat (first | (with_reducible first | exact HB.out | apply below_alloc | apply pw_below_drewN | apply below_drew1 | refine below_set ?_ GE203.out) | exact HB.out)⟩⟩
            case round =>
              clear H'
              try clear c1
              try clear p2
              try clear c4
              try clear c6
              try clear c6b0
              try clear c7
              try clear c7b0
              try clear c7b1
              try clear c12
              try clear c12b0
              try clear c12b1
              try clear c12b2
              try clear hcz13_0
              try clear hcz13_1
              try clear hcz15_0
              try clear hcz15_1
              try clear hcz5_0
              try clear hcz5_1
              try clear hfz13_0
              try clear hfz13_1
              try clear hfz15_0
              try clear hfz15_1
              try clear hfz5_0
              try clear hfz5_1
              try clear p2
              obtain ⟨x8_2, rfl, HA, HK2, HO_6, HO_7, BK203, HB⟩ := hrel
              cases gk with
              | zero => exact absurd HA.out (by simp [abugidalaw05_CharsCodes.l1])
              | succ k2 =>
                have H := HA.out
                clear HA
                simp only [abugidalaw05_CharsCodes.l1] at H
                by_cases c19 : x8_2 < (t204.length : Int)
                · rw [if_pos c19] at H
                  have c19b0 : decide (x8_2 < (t204.length : Int)) = true := decide_eq_true c19
                  clear c19
                  by_cases c20 : 0 ≤ x8_2
                  · rw [if_pos c20] at H
                    have c20b0 : decide (0 ≤ x8_2) = true := decide_eq_true c20
                    clear c20
                    by_cases c21 : x8_2 < (t207.length : Int)
                    · rw [if_pos c21] at H
                      have c21b0 : decide (x8_2 < (t207.length : Int)) = true := decide_eq_true c21
                      clear c21
                      by_cases c22 : (rd t204 x8_2) = (rd t207 x8_2)
                      · rw [if_pos c22] at H
                        have c22b0 : ((rd t204 x8_2) == (rd t207 x8_2)) = true := beq_iff_eq.mpr c22
                        have c22b1 : ((rd t204 x8_2) != (rd t207 x8_2)) = false := bne_eq_false_iff_eq.mpr c22
                        clear c22
                        have H' := Aside0.mk H
                        clear H
                        have p210 : 0 ≤ (x8_2 : Int) := of_decide_eq_true (by first | (with_reducible assumption) | assumption)
                        have q210 : x8_2 < (t204.length : Int) := of_decide_eq_true (by first | (with_reducible assumption) | assumption)
                        obtain ⟨ad210, e210, hx210_0⟩ := Kd.at_int (Kd.R_reads' HO_6.out).2.2 x8_2 p210 q210
                        cases e210
                        replace p210 := eq_true p210
                        replace q210 := eq_true q210
                        have p211 : 0 ≤ (x8_2 : Int) := of_decide_eq_true (by first | (with_reducible assumption) | assumption)
                        have q211 : x8_2 < (t207.length : Int) := of_decide_eq_true (by first | (with_reducible assumption) | assumption)
                        obtain ⟨ad211, e211, hx211_0⟩ := Kd.at_int (Kd.R_reads' HO_7.out).2.2 x8_2 p211 q211
                        cases e211
                        replace p211 := eq_true p211
                        replace q211 := eq_true q211
                        go_wp2
                        repeat (go_quiet (fail); try go_wp2)
                        go_roundg k2
                        case measure => have := HK1.out; have := HK2.out; omega
                        case rel => exact ⟨(wrap64 (x8_2 + 1)), (by first | rfl | (simp; done) | (simp [*]; done)), H', ⟨by have := HK1.out; have := HK2.out; omega⟩, ⟨by (with_reducible repeat (first | apply Kd.R_alloc | apply Kd.R_drewN | apply Kd.R_drew)); exact HO_6.out⟩, ⟨by (with_reducible repeat (first | apply Kd.R_alloc | apply Kd.R_drewN | apply Kd.R_drew)); exact HO_7.out⟩, ⟨by (with_reducible repeat (first | refine blk_drewN ?_ _ | refine blk_drew ?_ | refine blk_alloc ?_ _)); exact BK203.out⟩, ⟨by repeat (first | (with_reducible first | exact HB.out | apply below_alloc | apply pw_below_drewN | apply below_drew1 | refine below_set ?_ GE203.out) | exact HB.out)⟩⟩
                      · rw [if_neg c22] at H
                        have c22b0 : ((rd t204 x8_2) == (rd t207 x8_2)) = false := beq_eq_false_iff_ne.mpr c22
                        have c22b1 : ((rd t204 x8_2) != (rd t207 x8_2)) = true := bne_iff_ne.mpr c22
                        obtain rfl := Option.some.inj H
                        have p210 : 0 ≤ (x8_2 : Int) := of_decide_eq_true (by first | (with_reducible assumption) | assumption)
                        have q210 : x8_2 < (t204.length : Int) := of_decide_eq_true (by first | (with_reducible assumption) | assumption)
                        obtain ⟨ad210, e210, hx210_0⟩ := Kd.at_int (Kd.R_reads' HO_6.out).2.2 x8_2 p210 q210
                        cases e210
                        replace p210 := eq_true p210
                        replace q210 := eq_true q210
                        have p211 : 0 ≤ (x8_2 : Int) := of_decide_eq_true (by first | (with_reducible assumption) | assumption)
                        have q211 : x8_2 < (t207.length : Int) := of_decide_eq_true (by first | (with_reducible assumption) | assumption)
                        obtain ⟨ad211, e211, hx211_0⟩ := Kd.at_int (Kd.R_reads' HO_7.out).2.2 x8_2 p211 q211
                        cases e211
                        replace p211 := eq_true p211
                        replace q211 := eq_true q211
                        go_wp2
                        repeat (go_quiet (fail); try go_wp2)
                        go_ret
                        exact ⟨by first | rfl | (simp [errW_none, errW_some] <;> rfl) | (simp [*, errW_none, errW_some] <;> rfl), by repeat (first | (with_reducible first | exact HB.out | apply below_alloc | apply pw_below_drewN | apply below_drew1 | refine below_set ?_ GE203.out) | exact HB.out)⟩
                    · rw [if_neg c21] at H
                      exact absurd H (by simp)
                  · rw [if_neg c20] at H
                    exact absurd H (by simp)
                · rw [if_neg c19] at H
                  have c19b0 : decide (x8_2 < (t204.length : Int)) = false := decide_eq_false c19
                  clear c19
                  have H' := Aside0.mk H
                  clear H
                  go_wp2
                  repeat (go_quiet (fail); try go_wp2)
                  go_roundg k2
                  case measure => have := HK1.out; have := HK2.out; omega
                  case rel => exact ⟨(wrap64 (x5_1 + 1)), (by first | rfl | (simp; done) | (simp [*]; done)), H', ⟨by have := HK1.out; have := HK2.out; omega⟩, ⟨by (with_reducible repeat (first | refine blk_drewN ?_ _ | refine blk_drew ?_ | refine blk_alloc ?_ _)); exact BK203.out⟩, ⟨by repeat (first | (with_reducible first | exact HB.out | apply below_alloc | apply pw_below_drewN | apply below_drew1 | refine below_set ?_ GE203.out) | exact HB.out)⟩⟩
          · rw [if_neg c12] at H
            have c12b0 : ((t204.length : Int) == (t207.length : Int)) = false := beq_eq_false_iff_ne.mpr c12
            have c12b1 : ((t204.length : Int) != (t207.length : Int)) = true := bne_iff_ne.mpr c12
            have c12b2 : (t204.length == t207.length) = false := by first | simpa using c12 | (simp at c12 ⊢; omega)
            obtain rfl := Option.some.inj H
            have hcz23_0 : wr.cell? ⟨gb203, 0, none⟩ = some (.int .i64 a0) := (blk_cell BK203.out 0).trans rfl
            have hcz23_1 : wr.cell? ⟨gb203, 1, none⟩ = some (.int .i64 (Go.bits .and .i64 a0 3)) := (blk_cell BK203.out 1).trans rfl
            have hfz23_0 := blk_frozen BK203.out 0
            have hfz23_1 := blk_frozen BK203.out 1
            go_wp2_with (first | (go_at_call 16; (with_reducible refine (chars_Codes.calls k1 a0 t204 _ A9.out).mono ?_); rintro e w24 ⟨v205, rfl, ho0, hb⟩; have n0_ := Aside0.mk (Kd.R_lower ho0 (below_size (by repeat (first | (with_reducible first | exact HB.out | apply below_alloc | apply pw_below_drewN | apply below_drew1 | refine below_set ?_ GE203.out) | exact HB.out)))); have n1_ := Aside0.mk (blk_below (g := gb203) (o := .cells #[.int .i64 a0, .int .i64 (Go.bits .and .i64 a0 3)] 23 (0, 0)) (by (with_reducible repeat (first | refine blk_drewN ?_ _ | refine blk_drew ?_ | refine blk_alloc ?_ _)); exact BK203.out) hb); have n2_ := Aside0.mk (below_step (by repeat (first | (with_reducible first | exact HB.out | apply below_alloc | apply pw_below_drewN | apply below_drew1 | refine below_set ?_ GE203.out) | exact HB.out)) hb); clear BK203; clear HB; have HO206 := n0_; have BK203 := n1_; have HB := n2_; clear n0_ n1_ n2_; (try clear hb); (try clear hb2); (try clear hk); (try clear hi); (try clear ho0); have hcz25_0 : w24.cell? ⟨gb203, 0, none⟩ = some (.int .i64 a0) := (blk_cell BK203.out 0).trans rfl; have hcz25_1 : w24.cell? ⟨gb203, 1, none⟩ = some (.int .i64 (Go.bits .and .i64 a0 3)) := (blk_cell BK203.out 1).trans rfl; have hfz25_0 := blk_frozen BK203.out 0; have hfz25_1 := blk_frozen BK203.out 1) | (go_at_call 17; (with_reducible refine (abugidaref05_Codes.calls k1 a0 t207 _ A11.out).mono ?_); rintro e w26 ⟨v208, rfl, ho0, hb⟩; have n0_ := Aside0.mk (Kd.R_elder' (by (with_reducible repeat (first | apply Kd.R_alloc | apply Kd.R_drewN | apply Kd.R_drew)); exact HO206.out) (Kd.R_base ho0) hb); have n1_ := Aside0.mk (Kd.R_lower (Kd.R_new' ho0 (Kd.R_lt (by (with_reducible repeat (first | apply Kd.R_alloc | apply Kd.R_drewN | apply Kd.R_drew)); exact HO206.out))) (below_size (by repeat (first | (with_reducible first | exact HB.out | apply below_alloc | apply pw_below_drewN | apply below_drew1 | refine below_set ?_ GE203.out) | exact HB.out)))); have n2_ := Aside0.mk (blk_below (g := gb203) (o := .cells #[.int .i64 a0, .int .i64 (Go.bits .and .i64 a0 3)] 23 (0, 0)) (by (with_reducible repeat (first | refine blk_drewN ?_ _ | refine blk_drew ?_ | refine blk_alloc ?_ _)); exact BK203.out) hb); have n3_ := Aside0.mk (below_step (by repeat (first | (with_reducible first | exact HB.out | apply below_alloc | apply pw_below_drewN | apply below_drew1 | refine below_set ?_ GE203.out) | exact HB.out)) hb); clear HO206; clear BK203; clear HB; have HO206 := n0_; have HO209 := n1_; have BK203 := n2_; have HB := n3_; clear n0_ n1_ n2_ n3_; (try clear hb); (try clear hb2); (try clear hk); (try clear hi); (try clear ho0); obtain ⟨Ao27, co27, eo27⟩ := Kd.R_slice HO206.out; subst eo27; obtain ⟨Ao28, co28, eo28⟩ := Kd.R_slice HO209.out; subst eo28))
            repeat (go_quiet (first | (go_at_call 16; (with_reducible refine (chars_Codes.calls k1 a0 t204 _ A9.out).mono ?_); rintro e w24 ⟨v205, rfl, ho0, hb⟩; have n0_ := Aside0.mk (Kd.R_lower ho0 (below_size (by repeat (first | (with_reducible first | exact HB.out | apply below_alloc | apply pw_below_drewN | apply below_drew1 | refine below_set ?_ GE203.out) | exact HB.out)))); have n1_ := Aside0.mk (blk_below (g := gb203) (o := .cells #[.int .i64 a0, .int .i64 (Go.bits .and .i64 a0 3)] 23 (0, 0)) (by (with_reducible repeat (first | refine blk_drewN ?_ _ | refine blk_drew ?_ | refine blk_alloc ?_ _)); exact BK203.out) hb); have n2_ := Aside0.mk (below_step (by repeat (first | (with_reducible first | exact HB.out | apply below_alloc | apply pw_below_drewN | apply below_drew1 | refine below_set ?_ GE203.out) | exact HB.out)) hb); clear BK203; clear HB; have HO206 := n0_; have BK203 := n1_; have HB := n2_; clear n0_ n1_ n2_; (try clear hb); (try clear hb2); (try clear hk); (try clear hi); (try clear ho0); have hcz25_0 : w24.cell? ⟨gb203, 0, none⟩ = some (.int .i64 a0) := (blk_cell BK203.out 0).trans rfl; have hcz25_1 : w24.cell? ⟨gb203, 1, none⟩ = some (.int .i64 (Go.bits .and .i64 a0 3)) := (blk_cell BK203.out 1).trans rfl; have hfz25_0 := blk_frozen BK203.out 0; have hfz25_1 := blk_frozen BK203.out 1) | (go_at_call 17; (with_reducible refine (abugidaref05_Codes.calls k1 a0 t207 _ A11.out).mono ?_); rintro e w26 ⟨v208, rfl, ho0, hb⟩; have n0_ := Aside0.mk (Kd.R_elder' (by (with_reducible repeat (first | apply Kd.R_alloc | apply Kd.R_drewN | apply Kd.R_drew)); exact HO206.out) (Kd.R_base ho0) hb); have n1_ := Aside0.mk (Kd.R_lower (Kd.R_new' ho0 (Kd.R_lt (by (with_reducible repeat (first | apply Kd.R_alloc | apply Kd.R_drewN | apply Kd.R_drew)); exact HO206.out))) (below_size (by repeat (first | (with_reducible first | exact HB.out | apply below_alloc | apply pw_below_drewN | apply below_drew1 | refine below_set ?_ GE203.out) | exact HB.out)))); have n2_ := Aside0.mk (blk_below (g := gb203) (o := .cells #[.int .i64 a0, .int .i64 (Go.bits .and .i64 a0 3)] 23 (0, 0)) (by (with_reducible repeat (first | refine blk_drewN ?_ _ | refine blk_drew ?_ | refine blk_alloc ?_ _)); exact BK203.out) hb); have n3_ := Aside0.mk (below_step (by repeat (first | (with_reducible first | exact HB.out | apply below_alloc | apply pw_below_drewN | apply below_drew1 | refine below_set ?_ GE203.out) | exact HB.out)) hb); clear HO206; clear BK203; clear HB; have HO206 := n0_; have HO209 := n1_; have BK203 := n2_; have HB := n3_; clear n0_ n1_ n2_ n3_; (try clear hb); (try clear hb2); (try clear hk); (try clear hi); (try clear ho0); obtain ⟨Ao27, co27, eo27⟩ := Kd.R_slice HO206.out; subst eo27; obtain ⟨Ao28, co28, eo28⟩ := Kd.R_slice HO209.out; subst eo28)); try go_wp2_with (first | (go_at_call 16; (with_reducible refine (chars_Codes.calls k1 a0 t204 _ A9.out).mono ?_); rintro e w24 ⟨v205, rfl, ho0, hb⟩; have n0_ := Aside0.mk (Kd.R_lower ho0 (below_size (by repeat (first | (with_reducible first | exact HB.out | apply below_alloc | apply pw_below_drewN | apply below_drew1 | refine below_set ?_ GE203.out) | exact HB.out)))); have n1_ := Aside0.mk (blk_below (g := gb203) (o := .cells #[.int .i64 a0, .int .i64 (Go.bits .and .i64 a0 3)] 23 (0, 0)) (by (with_reducible repeat (first | refine blk_drewN ?_ _ | refine blk_drew ?_ | refine blk_alloc ?_ _)); exact BK203.out) hb); have n2_ := Aside0.mk (below_step (by repeat (first | (with_reducible first | exact HB.out | apply below_alloc | apply pw_below_drewN | apply below_drew1 | refine below_set ?_ GE203.out) | exact HB.out)) hb); clear BK203; clear HB; have HO206 := n0_; have BK203 := n1_; have HB := n2_; clear n0_ n1_ n2_; (try clear hb); (try clear hb2); (try clear hk); (try clear hi); (try clear ho0); have hcz25_0 : w24.cell? ⟨gb203, 0, none⟩ = some (.int .i64 a0) := (blk_cell BK203.out 0).trans rfl; have hcz25_1 : w24.cell? ⟨gb203, 1, none⟩ = some (.int .i64 (Go.bits .and .i64 a0 3)) := (blk_cell BK203.out 1).trans rfl; have hfz25_0 := blk_frozen BK203.out 0; have hfz25_1 := blk_frozen BK203.out 1) | (go_at_call 17; (with_reducible refine (abugidaref05_Codes.calls k1 a0 t207 _ A11.out).mono ?_); rintro e w26 ⟨v208, rfl, ho0, hb⟩; have n0_ := Aside0.mk (Kd.R_elder' (by (with_reducible repeat (first | apply Kd.R_alloc | apply Kd.R_drewN | apply Kd.R_drew)); exact HO206.out) (Kd.R_base ho0) hb); have n1_ := Aside0.mk (Kd.R_lower (Kd.R_new' ho0 (Kd.R_lt (by (with_reducible repeat (first | apply Kd.R_alloc | apply Kd.R_drewN | apply Kd.R_drew)); exact HO206.out))) (below_size (by repeat (first | (with_reducible first | exact HB.out | apply below_alloc | apply pw_below_drewN | apply below_drew1 | refine below_set ?_ GE203.out) | exact HB.out)))); have n2_ := Aside0.mk (blk_below (g := gb203) (o := .cells #[.int .i64 a0, .int .i64 (Go.bits .and .i64 a0 3)] 23 (0, 0)) (by (with_reducible repeat (first | refine blk_drewN ?_ _ | refine blk_drew ?_ | refine blk_alloc ?_ _)); exact BK203.out) hb); have n3_ := Aside0.mk (below_step (by repeat (first | (with_reducible first | exact HB.out | apply below_alloc | apply pw_below_drewN | apply below_drew1 | refine below_set ?_ GE203.out) | exact HB.out)) hb); clear HO206; clear BK203; clear HB; have HO206 := n0_; have HO209 := n1_; have BK203 := n2_; have HB := n3_; clear n0_ n1_ n2_ n3_; (try clear hb); (try clear hb2); (try clear hk); (try clear hi); (try clear ho0); obtain ⟨Ao27, co27, eo27⟩ := Kd.R_slice HO206.out; subst eo27; obtain ⟨Ao28, co28, eo28⟩ := Kd.R_slice HO209.out; subst eo28)))
            go_ret
            exact ⟨by first | rfl | (simp [errW_none, errW_some] <;> rfl) | (simp [*, errW_none, errW_some] <;> rfl), by repeat (first | (with_reducible first | exact HB.out | apply below_alloc | apply pw_below_drewN | apply below_drew1 | refine below_set ?_ GE203.out) | exact HB.out)⟩
        · rw [if_neg c7] at H
          have c7b0 : (x5_1 == 0) = false := beq_eq_false_iff_ne.mpr c7
          have c7b1 : (x5_1 != 0) = true := bne_iff_ne.mpr c7
          by_cases c29 : x5_1 = 1
          · rw [if_pos c29] at H
            have c29b0 : (x5_1 == 1) = true := beq_iff_eq.mpr c29
            have c29b1 : (x5_1 != 1) = false := bne_eq_false_iff_eq.mpr c29
            clear c29
            have hix30 : ∀ (g_ : Nat) (w_ : World), (Instr.indexAt 23 (.pointer (some ⟨g_, 0, none⟩)) (.int .i64 x5_1)).run Try.prog w_ = .ok (.pointer (some ⟨g_, 1, none⟩)) w_ := fun g_ w_ => (congrArg (fun z_ => (Instr.indexAt 23 (.pointer (some ⟨g_, 0, none⟩)) (.int .i64 z_)).run Try.prog w_) (eq_of_beq (by assumption) : x5_1 = 1)).trans (by kernel_rfl)
            replace H := Option.bind_eq_some_iff.mp H
            obtain ⟨t212, A310, H⟩ := H
            replace H : ((abugidaref05_Codes.f k1 (Go.bits .and .i64 a0 3)).bind fun t215 => (if (t212.length : Int) = (t215.length : Int) then (abugidalaw05_CharsCodes.l1 k1 t202 x5_1 t212 t215 0 a0 (Go.bits .and .i64 a0 3)) else (some false))) = some r := H
            have A31 := Aside0.mk A310
            clear A310
            have hix32 : ∀ (g_ : Nat) (w_ : World), (Instr.indexAt 23 (.pointer (some ⟨g_, 0, none⟩)) (.int .i64 x5_1)).run Try.prog w_ = .ok (.pointer (some ⟨g_, 1, none⟩)) w_ := fun g_ w_ => (congrArg (fun z_ => (Instr.indexAt 23 (.pointer (some ⟨g_, 0, none⟩)) (.int .i64 z_)).run Try.prog w_) (eq_of_beq (by assumption) : x5_1 = 1)).trans (by kernel_rfl)
            replace H := Option.bind_eq_some_iff.mp H
            obtain ⟨t215, A330, H⟩ := H
            replace H : (if (t212.length : Int) = (t215.length : Int) then (abugidalaw05_CharsCodes.l1 k1 t202 x5_1 t212 t215 0 a0 (Go.bits .and .i64 a0 3)) else (some false)) = some r := H
            have A33 := Aside0.mk A330
            clear A330
            by_cases c34 : (t212.length : Int) = (t215.length : Int)
            · rw [if_pos c34] at H
              have c34b0 : ((t212.length : Int) == (t215.length : Int)) = true := beq_iff_eq.mpr c34
              have c34b1 : ((t212.length : Int) != (t215.length : Int)) = false := bne_eq_false_iff_eq.mpr c34
              have c34b2 : (t212.length == t215.length) = true := by first | simpa using c34 | (simp at c34 ⊢; omega)
              clear c34
              have H' := Aside0.mk H
              clear H
              have hcz35_0 : wr.cell? ⟨gb203, 0, none⟩ = some (.int .i64 a0) := (blk_cell BK203.out 0).trans rfl
              have hcz35_1 : wr.cell? ⟨gb203, 1, none⟩ = some (.int .i64 (Go.bits .and .i64 a0 3)) := (blk_cell BK203.out 1).trans rfl
              have hfz35_0 := blk_frozen BK203.out 0
              have hfz35_1 := blk_frozen BK203.out 1
              go_wp2_with (first | (go_at_call 16; (with_reducible refine (chars_Codes.calls k1 (Go.bits .and .i64 a0 3) t212 _ A31.out).mono ?_); rintro e w36 ⟨v213, rfl, ho0, hb⟩; have n0_ := Aside0.mk (Kd.R_lower ho0 (below_size (by repeat (first | (with_reducible first | exact HB.out | apply below_alloc | apply pw_below_drewN | apply below_drew1 | refine below_set ?_ GE203.out) | exact HB.out)))); have n1_ := Aside0.mk (blk_below (g := gb203) (o := .cells #[.int .i64 a0, .int .i64 (Go.bits .and .i64 a0 3)] 23 (0, 0)) (by (with_reducible repeat (first | refine blk_drewN ?_ _ | refine blk_drew ?_ | refine blk_alloc ?_ _)); exact BK203.out) hb); have n2_ := Aside0.mk (below_step (by repeat (first | (with_reducible first | exact HB.out | apply below_alloc | apply pw_below_drewN | apply below_drew1 | refine below_set ?_ GE203.out) | exact HB.out)) hb); clear BK203; clear HB; have HO214 := n0_; have BK203 := n1_; have HB := n2_; clear n0_ n1_ n2_; (try clear hb); (try clear hb2); (try clear hk); (try clear hi); (try clear ho0); have hcz37_0 : w36.cell? ⟨gb203, 0, none⟩ = some (.int .i64 a0) := (blk_cell BK203.out 0).trans rfl; have hcz37_1 : w36.cell? ⟨gb203, 1, none⟩ = some (.int .i64 (Go.bits .and .i64 a0 3)) := (blk_cell BK203.out 1).trans rfl; have hfz37_0 := blk_frozen BK203.out 0; have hfz37_1 := blk_frozen BK203.out 1) | (go_at_call 17; (with_reducible refine (abugidaref05_Codes.calls k1 (Go.bits .and .i64 a0 3) t215 _ A33.out).mono ?_); rintro e w38 ⟨v216, rfl, ho0, hb⟩; have n0_ := Aside0.mk (Kd.R_elder' (by (with_reducible repeat (first | apply Kd.R_alloc | apply Kd.R_drewN | apply Kd.R_drew)); exact HO214.out) (Kd.R_base ho0) hb); have n1_ := Aside0.mk (Kd.R_lower (Kd.R_new' ho0 (Kd.R_lt (by (with_reducible repeat (first | apply Kd.R_alloc | apply Kd.R_drewN | apply Kd.R_drew)); exact HO214.out))) (below_size (by repeat (first | (with_reducible first | exact HB.out | apply below_alloc | apply pw_below_drewN | apply below_drew1 | refine below_set ?_ GE203.out) | exact HB.out)))); have n2_ := Aside0.mk (blk_below (g := gb203) (o := .cells #[.int .i64 a0, .int .i64 (Go.bits .and .i64 a0 3)] 23 (0, 0)) (by (with_reducible repeat (first | refine blk_drewN ?_ _ | refine blk_drew ?_ | refine blk_alloc ?_ _)); exact BK203.out) hb); have n3_ := Aside0.mk (below_step (by repeat (first | (with_reducible first | exact HB.out | apply below_alloc | apply pw_below_drewN | apply below_drew1 | refine below_set ?_ GE203.out) | exact HB.out)) hb); clear HO214; clear BK203; clear HB; have HO214 := n0_; have HO217 := n1_; have BK203 := n2_; have HB := n3_; clear n0_ n1_ n2_ n3_; (try clear hb); (try clear hb2); (try clear hk); (try clear hi); (try clear ho0); obtain ⟨Ao39, co39, eo39⟩ := Kd.R_slice HO214.out; subst eo39; obtain ⟨Ao40, co40, eo40⟩ := Kd.R_slice HO217.out; subst eo40))
              repeat (go_quiet (first | (go_at_call 16; (with_reducible refine (chars_Codes.calls k1 (Go.bits .and .i64 a0 3) t212 _ A31.out).mono ?_); rintro e w36 ⟨v213, rfl, ho0, hb⟩; have n0_ := Aside0.mk (Kd.R_lower ho0 (below_size (by repeat (first | (with_reducible first | exact HB.out | apply below_alloc | apply pw_below_drewN | apply below_drew1 | refine below_set ?_ GE203.out) | exact HB.out)))); have n1_ := Aside0.mk (blk_below (g := gb203) (o := .cells #[.int .i64 a0, .int .i64 (Go.bits .and .i64 a0 3)] 23 (0, 0)) (by (with_reducible repeat (first | refine blk_drewN ?_ _ | refine blk_drew ?_ | refine blk_alloc ?_ _)); exact BK203.out) hb); have n2_ := Aside0.mk (below_step (by repeat (first | (with_reducible first | exact HB.out | apply below_alloc | apply pw_below_drewN | apply below_drew1 | refine below_set ?_ GE203.out) | exact HB.out)) hb); clear BK203; clear HB; have HO214 := n0_; have BK203 := n1_; have HB := n2_; clear n0_ n1_ n2_; (try clear hb); (try clear hb2); (try clear hk); (try clear hi); (try clear ho0); have hcz37_0 : w36.cell? ⟨gb203, 0, none⟩ = some (.int .i64 a0) := (blk_cell BK203.out 0).trans rfl; have hcz37_1 : w36.cell? ⟨gb203, 1, none⟩ = some (.int .i64 (Go.bits .and .i64 a0 3)) := (blk_cell BK203.out 1).trans rfl; have hfz37_0 := blk_frozen BK203.out 0; have hfz37_1 := blk_frozen BK203.out 1) | (go_at_call 17; (with_reducible refine (abugidaref05_Codes.calls k1 (Go.bits .and .i64 a0 3) t215 _ A33.out).mono ?_); rintro e w38 ⟨v216, rfl, ho0, hb⟩; have n0_ := Aside0.mk (Kd.R_elder' (by (with_reducible repeat (first | apply Kd.R_alloc | apply Kd.R_drewN | apply Kd.R_drew)); exact HO214.out) (Kd.R_base ho0) hb); have n1_ := Aside0.mk (Kd.R_lower (Kd.R_new' ho0 (Kd.R_lt (by (with_reducible repeat (first | apply Kd.R_alloc | apply Kd.R_drewN | apply Kd.R_drew)); exact HO214.out))) (below_size (by repeat (first | (with_reducible first | exact HB.out | apply below_alloc | apply pw_below_drewN | apply below_drew1 | refine below_set ?_ GE203.out) | exact HB.out)))); have n2_ := Aside0.mk (blk_below (g := gb203) (o := .cells #[.int .i64 a0, .int .i64 (Go.bits .and .i64 a0 3)] 23 (0, 0)) (by (with_reducible repeat (first | refine blk_drewN ?_ _ | refine blk_drew ?_ | refine blk_alloc ?_ _)); exact BK203.out) hb); have n3_ := Aside0.mk (below_step (by repeat (first | (with_reducible first | exact HB.out | apply below_alloc | apply pw_below_drewN | apply below_drew1 | refine below_set ?_ GE203.out) | exact HB.out)) hb); clear HO214; clear BK203; clear HB; have HO214 := n0_; have HO217 := n1_; have BK203 := n2_; have HB := n3_; clear n0_ n1_ n2_ n3_; (try clear hb); (try clear hb2); (try clear hk); (try clear hi); (try clear ho0); obtain ⟨Ao39, co39, eo39⟩ := Kd.R_slice HO214.out; subst eo39; obtain ⟨Ao40, co40, eo40⟩ := Kd.R_slice HO217.out; subst eo40)); try go_wp2_with (first | (go_at_call 16; (with_reducible refine (chars_Codes.calls k1 (Go.bits .and .i64 a0 3) t212 _ A31.out).mono ?_); rintro e w36 ⟨v213, rfl, ho0, hb⟩; have n0_ := Aside0.mk (Kd.R_lower ho0 (below_size (by repeat (first | (with_reducible first | exact HB.out | apply below_alloc | apply pw_below_drewN | apply below_drew1 | refine below_set ?_ GE203.out) | exact HB.out)))); have n1_ := Aside0.mk (blk_below (g := gb203) (o := .cells #[.int .i64 a0, .int .i64 (Go.bits .and .i64 a0 3)] 23 (0, 0)) (by (with_reducible repeat (first | refine blk_drewN ?_ _ | refine blk_drew ?_ | refine blk_alloc ?_ _)); exact BK203.out) hb); have n2_ := Aside0.mk (below_step (by repeat (first | (with_reducible first | exact HB.out | apply below_alloc | apply pw_below_drewN | apply below_drew1 | refine below_set ?_ GE203.out) | exact HB.out)) hb); clear BK203; clear HB; have HO214 := n0_; have BK203 := n1_; have HB := n2_; clear n0_ n1_ n2_; (try clear hb); (try clear hb2); (try clear hk); (try clear hi); (try clear ho0); have hcz37_0 : w36.cell? ⟨gb203, 0, none⟩ = some (.int .i64 a0) := (blk_cell BK203.out 0).trans rfl; have hcz37_1 : w36.cell? ⟨gb203, 1, none⟩ = some (.int .i64 (Go.bits .and .i64 a0 3)) := (blk_cell BK203.out 1).trans rfl; have hfz37_0 := blk_frozen BK203.out 0; have hfz37_1 := blk_frozen BK203.out 1) | (go_at_call 17; (with_reducible refine (abugidaref05_Codes.calls k1 (Go.bits .and .i64 a0 3) t215 _ A33.out).mono ?_); rintro e w38 ⟨v216, rfl, ho0, hb⟩; have n0_ := Aside0.mk (Kd.R_elder' (by (with_reducible repeat (first | apply Kd.R_alloc | apply Kd.R_drewN | apply Kd.R_drew)); exact HO214.out) (Kd.R_base ho0) hb); have n1_ := Aside0.mk (Kd.R_lower (Kd.R_new' ho0 (Kd.R_lt (by (with_reducible repeat (first | apply Kd.R_alloc | apply Kd.R_drewN | apply Kd.R_drew)); exact HO214.out))) (below_size (by repeat (first | (with_reducible first | exact HB.out | apply below_alloc | apply pw_below_drewN | apply below_drew1 | refine below_set ?_ GE203.out) | exact HB.out)))); have n2_ := Aside0.mk (blk_below (g := gb203) (o := .cells #[.int .i64 a0, .int .i64 (Go.bits .and .i64 a0 3)] 23 (0, 0)) (by (with_reducible repeat (first | refine blk_drewN ?_ _ | refine blk_drew ?_ | refine blk_alloc ?_ _)); exact BK203.out) hb); have n3_ := Aside0.mk (below_step (by repeat (first | (with_reducible first | exact HB.out | apply below_alloc | apply pw_below_drewN | apply below_drew1 | refine below_set ?_ GE203.out) | exact HB.out)) hb); clear HO214; clear BK203; clear HB; have HO214 := n0_; have HO217 := n1_; have BK203 := n2_; have HB := n3_; clear n0_ n1_ n2_ n3_; (try clear hb); (try clear hb2); (try clear hk); (try clear hi); (try clear ho0); obtain ⟨Ao39, co39, eo39⟩ := Kd.R_slice HO214.out; subst eo39; obtain ⟨Ao40, co40, eo40⟩ := Kd.R_slice HO217.out; subst eo40)))
              go_loopg [8] k1 (fun kq v8 w' => ∃ (x8_2 : Int), v8 = .int .i64 x8_2 ∧ Aside0 (abugidalaw05_CharsCodes.l1 kq t202 x5_1 t212 t215 x8_2 a0 (Go.bits .and .i64 a0 3) = some r) ∧ Aside0 (kq ≤ k1) ∧ Aside0 (Kd.R (Kd.int .i64) 3 w' w.heap.size (fun k_ => some k_ ≠ ((.slice Ao40 t215.length co40) : Value).ownBlock) (.slice Ao39 t212.length co39) t212) ∧ Aside0 (Kd.R (Kd.int .i64) 3 w' w.heap.size (fun k_ => some k_ ≠ ((.slice Ao39 t212.length co39) : Value).ownBlock) (.slice Ao40 t215.length co40) t215) ∧ Aside0 (w'.heap[gb203]? = some (.cells #[.int .i64 a0, .int .i64 (Go.bits .and .i64 a0 3)] 23 (0, 0))) ∧ Aside0 (Below w.heap.size w w'))
              case atStart => exact ⟨(0), (by first | rfl | (simp; done) | (simp [*]; done)), H', ⟨Nat.le_refl _⟩, ⟨by (with_reducible repeat (first | apply Kd.R_alloc | apply Kd.R_drewN | apply Kd.R_drew)); exact Kd.R_mono HO214.out (fun _ hk => hk.2)⟩, ⟨by (with_reducible repeat (first | apply Kd.R_alloc | apply Kd.R_drewN | apply Kd.R_drew)); exact Kd.R_mono HO217.out (fun _ hk => hk.2)⟩, ⟨by (with_reducible repeat (first | refine blk_drewN ?_ _ | refine blk_drew ?_ | refine blk_alloc ?_ _)); exact BK203.out⟩, ⟨by repeat (first | (with_reducible first | exact HB.out | apply below_alloc | apply pw_below_drewN | apply below_drew1 | refine below_set ?_ GE203.out) | exact HB.out)⟩⟩
              case round =>
                clear H'
                try clear c1
                try clear c2
                try clear p2
                try clear q2
                try clear hx2
                try clear c3
                try clear c4
                try clear c6
                try clear c6b0
                try clear p6
                try clear c7
                try clear c7b0
                try clear c7b1
                try clear c12
                try clear c12b0
                try clear c12b1
                try clear c12b2
                try clear c19
                try clear c19b0
                try clear c20
                try clear c20b0
                try clear c21
                try clear c21b0
                try clear p21
                try clear q21
                try clear hx21
                try clear c22
                try clear c22b0
                try clear c22b1
                try clear c29
                try clear c29b0
                try clear c29b1
                try clear c34
                try clear c34b0
                try clear c34b1
                try clear c34b2
                try clear hcz13_0
                try clear hcz13_1
                try clear hcz15_0
                try clear hcz15_1
                try clear hcz23_0
                try clear hcz23_1
                try clear hcz25_0
                try clear hcz25_1
                try clear hcz35_0
                try clear hcz35_1
                try clear hcz37_0
                try clear hcz37_1
                try clear hcz5_0
                try clear hcz5_1
                try clear hfz13_0
                try clear hfz13_1
                try clear hfz15_0
                try clear hfz15_1
                try clear hfz23_0
                try clear hfz23_1
                try clear hfz25_0
                try clear hfz25_1
                try clear hfz35_0
                try clear hfz35_1
                try clear hfz37_0
                try clear hfz37_1
                try clear hfz5_0
                try clear hfz5_1
                try clear hx210_0
                try clear hx211_0
                try clear p2
                try clear p210
                try clear p211
                try clear q210
                try clear q211
                obtain ⟨x8_2, rfl, HA, HK2, HO_6, HO_7, BK203, HB⟩ := hrel
                cases gk with
                | zero => exact absurd HA.out (by simp [abugidalaw05_CharsCodes.l1])
                | succ k2 =>
                  have H := HA.out
                  clear HA
                  simp only [abugidalaw05_CharsCodes.l1] at H
                  by_cases c41 : x8_2 < (t212.length : Int)
                  · rw [if_pos c41] at H
                    have c41b0 : decide (x8_2 < (t212.length : Int)) = true := decide_eq_true c41
                    clear c41
                    by_cases c42 : 0 ≤ x8_2
                    · rw [if_pos c42] at H
                      have c42b0 : decide (0 ≤ x8_2) = true := decide_eq_true c42
                      clear c42
                      by_cases c43 : x8_2 < (t215.length : Int)
                      · rw [if_pos c43] at H
                        have c43b0 : decide (x8_2 < (t215.length : Int)) = true := decide_eq_true c43
                        clear c43
                        by_cases c44 : (rd t212 x8_2) = (rd t215 x8_2)
                        · rw [if_pos c44] at H
                          have c44b0 : ((rd t212 x8_2) == (rd t215 x8_2)) = true := beq_iff_eq.mpr c44
                          have c44b1 : ((rd t212 x8_2) != (rd t215 x8_2)) = false := bne_eq_false_iff_eq.mpr c44
                          clear c44
                          have H' := Aside0.mk H
                          clear H
                          have p210 : 0 ≤ (x8_2 : Int) := of_decide_eq_true (by first | (with_reducible assumption) | assumption)
                          have q210 : x8_2 < (t212.length : Int) := of_decide_eq_true (by first | (with_reducible assumption) | assumption)
                          obtain ⟨ad210, e210, hx210_0⟩ := Kd.at_int (Kd.R_reads' HO_6.out).2.2 x8_2 p210 q210
                          cases e210
                          replace p210 := eq_true p210
                          replace q210 := eq_true q210
                          have p211 : 0 ≤ (x8_2 : Int) := of_decide_eq_true (by first | (with_reducible assumption) | assumption)
                          have q211 : x8_2 < (t215.length : Int) := of_decide_eq_true (by first | (with_reducible assumption) | assumption)
                          obtain ⟨ad211, e211, hx211_0⟩ := Kd.at_int (Kd.R_reads' HO_7.out).2.2 x8_2 p211 q211
                          cases e211
                          replace p211 := eq_true p211
                          replace q211 := eq_true q211
                          go_wp2
                          repeat (go_quiet (fail); try go_wp2)
                          go_roundg k2
                          case measure => have := HK1.out; have := HK2.out; omega
                          case rel => exact ⟨(wrap64 (x8_2 + 1)), (by first | rfl | (simp; done) | (simp [*]; done)), H', ⟨by have := HK1.out; have := HK2.out; omega⟩, ⟨by (with_reducible repeat (first | apply Kd.R_alloc | apply Kd.R_drewN | apply Kd.R_drew)); exact HO_6.out⟩, ⟨by (with_reducible repeat (first | apply Kd.R_alloc | apply Kd.R_drewN | apply Kd.R_drew)); exact HO_7.out⟩, ⟨by (with_reducible repeat (first | refine blk_drewN ?_ _ | refine blk_drew ?_ | refine blk_alloc ?_ _)); exact BK203.out⟩, ⟨by repeat (first | (with_reducible first | exact HB.out | apply below_alloc | apply pw_below_drewN | apply below_drew1 | refine below_set ?_ GE203.out) | exact HB.out)⟩⟩
                        · rw [if_neg c44] at H
                          have c44b0 : ((rd t212 x8_2) == (rd t215 x8_2)) = false := beq_eq_false_iff_ne.mpr c44
                          have c44b1 : ((rd t212 x8_2) != (rd t215 x8_2)) = true := bne_iff_ne.mpr c44
                          obtain rfl := Option.some.inj H
                          have p210 : 0 ≤ (x8_2 : Int) := of_decide_eq_true (by first | (with_reducible assumption) | assumption)
                          have q210 : x8_2 < (t212.length : Int) := of_decide_eq_true (by first | (with_reducible assumption) | assumption)
                          obtain ⟨ad210, e210, hx210_0⟩ := Kd.at_int (Kd.R_reads' HO_6.out).2.2 x8_2 p210 q210
                          cases e210
                          replace p210 := eq_true p210
                          replace q210 := eq_true q210
                          have p211 : 0 ≤ (x8_2 : Int) := of_decide_eq_true (by first | (with_reducible assumption) | assumption)
                          have q211 : x8_2 < (t215.length : Int) := of_decide_eq_true (by first | (with_reducible assumption) | assumption)
                          obtain ⟨ad211, e211, hx211_0⟩ := Kd.at_int (Kd.R_reads' HO_7.out).2.2 x8_2 p211 q211
                          cases e211
                          replace p211 := eq_true p211
                          replace q211 := eq_true q211
                          go_wp2
                          repeat (go_quiet (fail); try go_wp2)
                          go_ret
                          exact ⟨by first | rfl | (simp [errW_none, errW_some] <;> rfl) | (simp [*, errW_none, errW_some] <;> rfl), by repeat (first | (with_reducible first | exact HB.out | apply below_alloc | apply pw_below_drewN | apply below_drew1 | refine below_set ?_ GE203.out) | exact HB.out)⟩
                      · rw [if_neg c43] at H
                        exact absurd H (by simp)
                    · rw [if_neg c42] at H
                      exact absurd H (by simp)
                  · rw [if_neg c41] at H
                    have c41b0 : decide (x8_2 < (t212.length : Int)) = false := decide_eq_false c41
                    clear c41
                    have H' := Aside0.mk H
                    clear H
                    go_wp2
                    repeat (go_quiet (fail); try go_wp2)
                    go_roundg k2
                    case measure => have := HK1.out; have := HK2.out; omega
                    case rel => exact ⟨(wrap64 (x5_1 + 1)), (by first | rfl | (simp; done) | (simp [*]; done)), H', ⟨by have := HK1.out; have := HK2.out; omega⟩, ⟨by (with_reducible repeat (first | refine blk_drewN ?_ _ | refine blk_drew ?_ | refine blk_alloc ?_ _)); exact BK203.out⟩, ⟨by repeat (first | (with_reducible first | exact HB.out | apply below_alloc | apply pw_below_drewN | apply below_drew1 | refine below_set ?_ GE203.out) | exact HB.out)⟩⟩
            · rw [if_neg c34] at H
              have c34b0 : ((t212.length : Int) == (t215.length : Int)) = false := beq_eq_false_iff_ne.mpr c34
              have c34b1 : ((t212.length : Int) != (t215.length : Int)) = true := bne_iff_ne.mpr c34
              have c34b2 : (t212.length == t215.length) = false := by first | simpa using c34 | (simp at c34 ⊢; omega)
              obtain rfl := Option.some.inj H
              have hcz45_0 : wr.cell? ⟨gb203, 0, none⟩ = some (.int .i64 a0) := (blk_cell BK203.out 0).trans rfl
              have hcz45_1 : wr.cell? ⟨gb203, 1, none⟩ = some (.int .i64 (Go.bits .and .i64 a0 3)) := (blk_cell BK203.out 1).trans rfl
              have hfz45_0 := blk_frozen BK203.out 0
              have hfz45_1 := blk_frozen BK203.out 1
              go_wp2_with (first | (go_at_call 16; (with_reducible refine (chars_Codes.calls k1 (Go.bits .and .i64 a0 3) t212 _ A31.out).mono ?_); rintro e w46 ⟨v213, rfl, ho0, hb⟩; have n0_ := Aside0.mk (Kd.R_lower ho0 (below_size (by repeat (first | (with_reducible first | exact HB.out | apply below_alloc | apply pw_below_drewN | apply below_drew1 | refine below_set ?_ GE203.out) | exact HB.out)))); have n1_ := Aside0.mk (blk_below (g := gb203) (o := .cells #[.int .i64 a0, .int .i64 (Go.bits .and .i64 a0 3)] 23 (0, 0)) (by (with_reducible repeat (first | refine blk_drewN ?_ _ | refine blk_drew ?_ | refine blk_alloc ?_ _)); exact BK203.out) hb); have n2_ := Aside0.mk (below_step (by repeat (first | (with_reducible first | exact HB.out | apply below_alloc | apply pw_below_drewN | apply below_drew1 | refine below_set ?_ GE203.out) | exact HB.out)) hb); clear BK203; clear HB; have HO214 := n0_; have BK203 := n1_; have HB := n2_; clear n0_ n1_ n2_; (try clear hb); (try clear hb2); (try clear hk); (try clear hi); (try clear ho0); have hcz47_0 : w46.cell? ⟨gb203, 0, none⟩ = some (.int .i64 a0) := (blk_cell BK203.out 0).trans rfl; have hcz47_1 : w46.cell? ⟨gb203, 1, none⟩ = some (.int .i64 (Go.bits .and .i64 a0 3)) := (blk_cell BK203.out 1).trans rfl; have hfz47_0 := blk_frozen BK203.out 0; have hfz47_1 := blk_frozen BK203.out 1) | (go_at_call 17; (with_reducible refine (abugidaref05_Codes.calls k1 (Go.bits .and .i64 a0 3) t215 _ A33.out).mono ?_); rintro e w48 ⟨v216, rfl, ho0, hb⟩; have n0_ := Aside0.mk (Kd.R_elder' (by (with_reducible repeat (first | apply Kd.R_alloc | apply Kd.R_drewN | apply Kd.R_drew)); exact HO214.out) (Kd.R_base ho0) hb); have n1_ := Aside0.mk (Kd.R_lower (Kd.R_new' ho0 (Kd.R_lt (by (with_reducible repeat (first | apply Kd.R_alloc | apply Kd.R_drewN | apply Kd.R_drew)); exact HO214.out))) (below_size (by repeat (first | (with_reducible first | exact HB.out | apply below_alloc | apply pw_below_drewN | apply below_drew1 | refine below_set ?_ GE203.out) | exact HB.out)))); have n2_ := Aside0.mk (blk_below (g := gb203) (o := .cells #[.int .i64 a0, .int .i64 (Go.bits .and .i64 a0 3)] 23 (0, 0)) (by (with_reducible repeat (first | refine blk_drewN ?_ _ | refine blk_drew ?_ | refine blk_alloc ?_ _)); exact BK203.out) hb); have n3_ := Aside0.mk (below_step (by repeat (first | (with_reducible first | exact HB.out | apply below_alloc | apply pw_below_drewN | apply below_drew1 | refine below_set ?_ GE203.out) | exact HB.out)) hb); clear HO214; clear BK203; clear HB; have HO214 := n0_; have HO217 := n1_; have BK203 := n2_; have HB := n3_; clear n0_ n1_ n2_ n3_; (try clear hb); (try clear hb2); (try clear hk); (try clear hi); (try clear ho0); obtain ⟨Ao49, co49, eo49⟩ := Kd.R_slice HO214.out; subst eo49; obtain ⟨Ao50, co50, eo50⟩ := Kd.R_slice HO217.out; subst eo50))
              repeat (go_quiet (first | (go_at_call 16; (with_reducible refine (chars_Codes.calls k1 (Go.bits .and .i64 a0 3) t212 _ A31.out).mono ?_); rintro e w46 ⟨v213, rfl, ho0, hb⟩; have n0_ := Aside0.mk (Kd.R_lower ho0 (below_size (by repeat (first | (with_reducible first | exact HB.out | apply below_alloc | apply pw_below_drewN | apply below_drew1 | refine below_set ?_ GE203.out) | exact HB.out)))); have n1_ := Aside0.mk (blk_below (g := gb203) (o := .cells #[.int .i64 a0, .int .i64 (Go.bits .and .i64 a0 3)] 23 (0, 0)) (by (with_reducible repeat (first | refine blk_drewN ?_ _ | refine blk_drew ?_ | refine blk_alloc ?_ _)); exact BK203.out) hb); have n2_ := Aside0.mk (below_step (by repeat (first | (with_reducible first | exact HB.out | apply below_alloc | apply pw_below_drewN | apply below_drew1 | refine below_set ?_ GE203.out) | exact HB.out)) hb); clear BK203; clear HB; have HO214 := n0_; have BK203 := n1_; have HB := n2_; clear n0_ n1_ n2_; (try clear hb); (try clear hb2); (try clear hk); (try clear hi); (try clear ho0); have hcz47_0 : w46.cell? ⟨gb203, 0, none⟩ = some (.int .i64 a0) := (blk_cell BK203.out 0).trans rfl; have hcz47_1 : w46.cell? ⟨gb203, 1, none⟩ = some (.int .i64 (Go.bits .and .i64 a0 3)) := (blk_cell BK203.out 1).trans rfl; have hfz47_0 := blk_frozen BK203.out 0; have hfz47_1 := blk_frozen BK203.out 1) | (go_at_call 17; (with_reducible refine (abugidaref05_Codes.calls k1 (Go.bits .and .i64 a0 3) t215 _ A33.out).mono ?_); rintro e w48 ⟨v216, rfl, ho0, hb⟩; have n0_ := Aside0.mk (Kd.R_elder' (by (with_reducible repeat (first | apply Kd.R_alloc | apply Kd.R_drewN | apply Kd.R_drew)); exact HO214.out) (Kd.R_base ho0) hb); have n1_ := Aside0.mk (Kd.R_lower (Kd.R_new' ho0 (Kd.R_lt (by (with_reducible repeat (first | apply Kd.R_alloc | apply Kd.R_drewN | apply Kd.R_drew)); exact HO214.out))) (below_size (by repeat (first | (with_reducible first | exact HB.out | apply below_alloc | apply pw_below_drewN | apply below_drew1 | refine below_set ?_ GE203.out) | exact HB.out)))); have n2_ := Aside0.mk (blk_below (g := gb203) (o := .cells #[.int .i64 a0, .int .i64 (Go.bits .and .i64 a0 3)] 23 (0, 0)) (by (with_reducible repeat (first | refine blk_drewN ?_ _ | refine blk_drew ?_ | refine blk_alloc ?_ _)); exact BK203.out) hb); have n3_ := Aside0.mk (below_step (by repeat (first | (with_reducible first | exact HB.out | apply below_alloc | apply pw_below_drewN | apply below_drew1 | refine below_set ?_ GE203.out) | exact HB.out)) hb); clear HO214; clear BK203; clear HB; have HO214 := n0_; have HO217 := n1_; have BK203 := n2_; have HB := n3_; clear n0_ n1_ n2_ n3_; (try clear hb); (try clear hb2); (try clear hk); (try clear hi); (try clear ho0); obtain ⟨Ao49, co49, eo49⟩ := Kd.R_slice HO214.out; subst eo49; obtain ⟨Ao50, co50, eo50⟩ := Kd.R_slice HO217.out; subst eo50)); try go_wp2_with (first | (go_at_call 16; (with_reducible refine (chars_Codes.calls k1 (Go.bits .and .i64 a0 3) t212 _ A31.out).mono ?_); rintro e w46 ⟨v213, rfl, ho0, hb⟩; have n0_ := Aside0.mk (Kd.R_lower ho0 (below_size (by repeat (first | (with_reducible first | exact HB.out | apply below_alloc | apply pw_below_drewN | apply below_drew1 | refine below_set ?_ GE203.out) | exact HB.out)))); have n1_ := Aside0.mk (blk_below (g := gb203) (o := .cells #[.int .i64 a0, .int .i64 (Go.bits .and .i64 a0 3)] 23 (0, 0)) (by (with_reducible repeat (first | refine blk_drewN ?_ _ | refine blk_drew ?_ | refine blk_alloc ?_ _)); exact BK203.out) hb); have n2_ := Aside0.mk (below_step (by repeat (first | (with_reducible first | exact HB.out | apply below_alloc | apply pw_below_drewN | apply below_drew1 | refine below_set ?_ GE203.out) | exact HB.out)) hb); clear BK203; clear HB; have HO214 := n0_; have BK203 := n1_; have HB := n2_; clear n0_ n1_ n2_; (try clear hb); (try clear hb2); (try clear hk); (try clear hi); (try clear ho0); have hcz47_0 : w46.cell? ⟨gb203, 0, none⟩ = some (.int .i64 a0) := (blk_cell BK203.out 0).trans rfl; have hcz47_1 : w46.cell? ⟨gb203, 1, none⟩ = some (.int .i64 (Go.bits .and .i64 a0 3)) := (blk_cell BK203.out 1).trans rfl; have hfz47_0 := blk_frozen BK203.out 0; have hfz47_1 := blk_frozen BK203.out 1) | (go_at_call 17; (with_reducible refine (abugidaref05_Codes.calls k1 (Go.bits .and .i64 a0 3) t215 _ A33.out).mono ?_); rintro e w48 ⟨v216, rfl, ho0, hb⟩; have n0_ := Aside0.mk (Kd.R_elder' (by (with_reducible repeat (first | apply Kd.R_alloc | apply Kd.R_drewN | apply Kd.R_drew)); exact HO214.out) (Kd.R_base ho0) hb); have n1_ := Aside0.mk (Kd.R_lower (Kd.R_new' ho0 (Kd.R_lt (by (with_reducible repeat (first | apply Kd.R_alloc | apply Kd.R_drewN | apply Kd.R_drew)); exact HO214.out))) (below_size (by repeat (first | (with_reducible first | exact HB.out | apply below_alloc | apply pw_below_drewN | apply below_drew1 | refine below_set ?_ GE203.out) | exact HB.out)))); have n2_ := Aside0.mk (blk_below (g := gb203) (o := .cells #[.int .i64 a0, .int .i64 (Go.bits .and .i64 a0 3)] 23 (0, 0)) (by (with_reducible repeat (first | refine blk_drewN ?_ _ | refine blk_drew ?_ | refine blk_alloc ?_ _)); exact BK203.out) hb); have n3_ := Aside0.mk (below_step (by repeat (first | (with_reducible first | exact HB.out | apply below_alloc | apply pw_below_drewN | apply below_drew1 | refine below_set ?_ GE203.out) | exact HB.out)) hb); clear HO214; clear BK203; clear HB; have HO214 := n0_; have HO217 := n1_; have BK203 := n2_; have HB := n3_; clear n0_ n1_ n2_ n3_; (try clear hb); (try clear hb2); (try clear hk); (try clear hi); (try clear ho0); obtain ⟨Ao49, co49, eo49⟩ := Kd.R_slice HO214.out; subst eo49; obtain ⟨Ao50, co50, eo50⟩ := Kd.R_slice HO217.out; subst eo50)))
              go_ret
              exact ⟨by first | rfl | (simp [errW_none, errW_some] <;> rfl) | (simp [*, errW_none, errW_some] <;> rfl), by repeat (first | (with_reducible first | exact HB.out | apply below_alloc | apply pw_below_drewN | apply below_drew1 | refine below_set ?_ GE203.out) | exact HB.out)⟩
          · rw [if_neg c29] at H
            exact absurd H (by simp)
      · rw [if_neg c6] at H
        have c6b0 : decide (x5_1 < 2) = false := decide_eq_false c6
        clear c6
        obtain rfl := Option.some.inj H
        go_wp2
        repeat (go_quiet (fail); try go_wp2)
        go_ret
        exact ⟨by first | rfl | (simp [errW_none, errW_some] <;> rfl) | (simp [*, errW_none, errW_some] <;> rfl), by repeat (first | (with_reducible first | exact HB.out | apply below_alloc | apply pw_below_drewN | apply below_drew1 | refine below_set ?_ GE203.out) | exact HB.out)⟩

/-- THE ONE PURE STATEMENT of abugidalaw05_CharsCodes: yours. -/
def abugidalaw05_CharsCodes.Pure : Prop := ∀ (a0 : Int), (Lit.int .i64 a0).wf = true → ∃ k, abugidalaw05_CharsCodes.f k a0 = some true
theorem abugidalaw05_CharsCodes.walk (P : abugidalaw05_CharsCodes.Pure) (a0 : Int) (w : World) (w0 : (Lit.int .i64 a0).wf = true) :
    Calls Try.prog 4 #[.int .i64 a0] w fun e w' => e = .returned (.bool true) ∧ Below w.heap.size w w' := by
  obtain ⟨k, h⟩ := P a0 w0
  refine (abugidalaw05_CharsCodes.calls k a0 true w h).mono ?_
  rintro e w' ⟨rfl, hd⟩
  exact ⟨rfl, hd⟩

end Go.Proofs.Ytmgiapmkggkmhaa.Q

/- Texts of this claim, merged by wip/tools/pack.py: Qx21, Qx23, Rp, Rq, Ca, Qx3, Sa, Rt, Nn, Rk, Rkw, Opn, Oc. -/
import Derived.Test.YtlgkeaildncojaaZ28
import Derived.Deep.Slices
import Derived.OpenShut
section
-- Written by wip/tools/myprint.py, a program of this session that drives the kit's print.py; not a text of print.sh.
namespace Go.Proofs.Ytlgkeaildncojaa.Q
open Go.RowKit Go.Proofs.YtlgkeaildncojaaW.PrintWords Go.Proofs.YtlgkeaildncojaaW.PrintLast Go.Proofs.YtlgkeaildncojaaW.PrintMore
attribute [local go_sem] max2_int min2_int max_two min_two max_three min_three max_four min_four   -- for this text's walks alone
set_option linter.unusedVariables false
set_option linter.unusedSimpArgs false

-- NOT PRINTED: function 4 (abugidalaw16_RulesMatches)

/-! ### abugidalaw16_can: function 24 -/
def abugidalaw16_can.f (a0_0 : Int) (a0_1 : Int) (l1 : List Bool) : Option (Bool) := if a0_1 ≥ 0 then (if a0_1 < (l1.length : Int) then (if 0 ≤ a0_1 then (some (rdOf false l1 a0_1)) else (none)) else (some false)) else (some false)
set_option maxHeartbeats 8000000 in
set_option maxRecDepth 100000 in
theorem abugidalaw16_can.calls (a0_0 : Int) (a0_1 : Int) (A1 : Option Addr) (c1 : Nat) (l1 : List Bool) (r : Bool) (w : World) (hr1 : Kd.C Kd.bool w A1 l1.length l1) (hc1 : l1.length ≤ c1) (h : abugidalaw16_can.f a0_0 a0_1 l1 = some r) :
    Calls Try.prog 24 #[.agg #[.int .i64 a0_0, .int .i64 a0_1], .slice A1 l1.length c1] w fun e w' => e = .returned (.bool r) ∧ Below w.heap.size w w' := by
  have hu55 := Try.underlying55
  have HR1 := Aside0.mk hr1
  have HC1 := Aside0.mk hc1
  clear hr1 hc1
  have HB := Aside0.mk (Below.refl w.heap.size w)
  have H : (if a0_1 ≥ 0 then (if a0_1 < (l1.length : Int) then (if 0 ≤ a0_1 then (some (rdOf false l1 a0_1)) else (none)) else (some false)) else (some false)) = some r := h
  clear h
  by_cases c3 : a0_1 ≥ 0
  · rw [if_pos c3] at H
    have c3b0 : decide (0 ≤ a0_1) = true := decide_eq_true c3
    clear c3
    by_cases c4 : a0_1 < (l1.length : Int)
    · rw [if_pos c4] at H
      have c4b0 : decide (a0_1 < (l1.length : Int)) = true := decide_eq_true c4
      clear c4
      by_cases c5 : 0 ≤ a0_1
      · rw [if_pos c5] at H
        have c5b0 : decide (0 ≤ a0_1) = true := decide_eq_true c5
        clear c5
        obtain rfl := Option.some.inj H
        go_enter Try.func24, Try.ntmps24
        go_wp2_with (first | ((with_reducible refine gate_dst (N := 2) rfl ?_); (try (refine gate_guard (by rfl) ?_; dsimp only)); refine box_event ?hg (N := 2) ?hd (cs := #[.int .i64 a0_0, .int .i64 a0_1]) (t := 55) ?hr ?_; (case hd => rfl); (case hg => rfl); (case hr => first | (go_simp; done) | (go_simp; rfl)); intro gb560 hg w6 hbox hb; have n0_ := Aside0.mk (below_step (by repeat (first | (with_reducible first | exact HB.out | apply below_alloc | apply pw_below_drewN | apply below_drew1) | exact HB.out)) hb); have n1_ := Aside0.mk (hbox); have n2_ := Aside0.mk ((by rw [hg]; exact (below_size (by repeat (first | (with_reducible first | exact HB.out | apply below_alloc | apply pw_below_drewN | apply below_drew1) | exact HB.out))) : w.heap.size ≤ gb560)); have n3_ := Aside0.mk ((by rw [hg]; exact (below_size (by repeat (first | (with_reducible first | exact HB.out | apply below_alloc | apply pw_below_drewN | apply below_drew1) | exact HB.out))) : w.heap.size ≤ gb560)); clear HB; have HB := n0_; have BK560 := n1_; have GW560 := n2_; have GE560 := n3_; clear n0_ n1_ n2_ n3_; clear hb hbox hg; have hcz7_0 : w6.cell? ⟨gb560, 0, none⟩ = some (.int .i64 a0_0) := (blk_cell BK560.out 0).trans rfl; have hcz7_1 : w6.cell? ⟨gb560, 1, none⟩ = some (.int .i64 a0_1) := (blk_cell BK560.out 1).trans rfl; have hfz7_0 := blk_frozen BK560.out 0; have hfz7_1 := blk_frozen BK560.out 1; have p561 : 0 ≤ (a0_1 : Int) := of_decide_eq_true (by first | (with_reducible assumption) | assumption); have q561 : a0_1 < (l1.length : Int) := of_decide_eq_true (by first | (with_reducible assumption) | assumption); obtain ⟨ad561, e561, hx561_0⟩ := Kd.at_bool HR1.out a0_1 p561 q561; cases e561; replace hx561_0 := (HB.out.cell (World.block_lt_of_cell? w _ hx561_0)).trans hx561_0; replace p561 := eq_true p561; replace q561 := eq_true q561))
        go_ret
        exact ⟨by first | rfl | (simp [errW_none, errW_some] <;> rfl) | (simp [*, errW_none, errW_some] <;> rfl), by repeat (first | (with_reducible first | exact HB.out | apply below_alloc | apply pw_below_drewN | apply below_drew1 | refine below_set ?_ GE560.out) | exact HB.out)⟩
      · rw [if_neg c5] at H
        exact absurd H (by simp)
    · rw [if_neg c4] at H
      have c4b0 : decide (a0_1 < (l1.length : Int)) = false := decide_eq_false c4
      clear c4
      obtain rfl := Option.some.inj H
      go_enter Try.func24, Try.ntmps24
      go_wp2_with (first | ((with_reducible refine gate_dst (N := 2) rfl ?_); (try (refine gate_guard (by rfl) ?_; dsimp only)); refine box_event ?hg (N := 2) ?hd (cs := #[.int .i64 a0_0, .int .i64 a0_1]) (t := 55) ?hr ?_; (case hd => rfl); (case hg => rfl); (case hr => first | (go_simp; done) | (go_simp; rfl)); intro gb560 hg w8 hbox hb; have n0_ := Aside0.mk (below_step (by repeat (first | (with_reducible first | exact HB.out | apply below_alloc | apply pw_below_drewN | apply below_drew1) | exact HB.out)) hb); have n1_ := Aside0.mk (hbox); have n2_ := Aside0.mk ((by rw [hg]; exact (below_size (by repeat (first | (with_reducible first | exact HB.out | apply below_alloc | apply pw_below_drewN | apply below_drew1) | exact HB.out))) : w.heap.size ≤ gb560)); have n3_ := Aside0.mk ((by rw [hg]; exact (below_size (by repeat (first | (with_reducible first | exact HB.out | apply below_alloc | apply pw_below_drewN | apply below_drew1) | exact HB.out))) : w.heap.size ≤ gb560)); clear HB; have HB := n0_; have BK560 := n1_; have GW560 := n2_; have GE560 := n3_; clear n0_ n1_ n2_ n3_; clear hb hbox hg; have hcz9_0 : w8.cell? ⟨gb560, 0, none⟩ = some (.int .i64 a0_0) := (blk_cell BK560.out 0).trans rfl; have hcz9_1 : w8.cell? ⟨gb560, 1, none⟩ = some (.int .i64 a0_1) := (blk_cell BK560.out 1).trans rfl; have hfz9_0 := blk_frozen BK560.out 0; have hfz9_1 := blk_frozen BK560.out 1))
      go_ret
      exact ⟨by first | rfl | (simp [errW_none, errW_some] <;> rfl) | (simp [*, errW_none, errW_some] <;> rfl), by repeat (first | (with_reducible first | exact HB.out | apply below_alloc | apply pw_below_drewN | apply below_drew1 | refine below_set ?_ GE560.out) | exact HB.out)⟩
  · rw [if_neg c3] at H
    have c3b0 : decide (0 ≤ a0_1) = false := decide_eq_false c3
    clear c3
    obtain rfl := Option.some.inj H
    go_enter Try.func24, Try.ntmps24
    go_wp2_with (first | ((with_reducible refine gate_dst (N := 2) rfl ?_); (try (refine gate_guard (by rfl) ?_; dsimp only)); refine box_event ?hg (N := 2) ?hd (cs := #[.int .i64 a0_0, .int .i64 a0_1]) (t := 55) ?hr ?_; (case hd => rfl); (case hg => rfl); (case hr => first | (go_simp; done) | (go_simp; rfl)); intro gb560 hg w10 hbox hb; have n0_ := Aside0.mk (below_step (by repeat (first | (with_reducible first | exact HB.out | apply below_alloc | apply pw_below_drewN | apply below_drew1) | exact HB.out)) hb); have n1_ := Aside0.mk (hbox); have n2_ := Aside0.mk ((by rw [hg]; exact (below_size (by repeat (first | (with_reducible first | exact HB.out | apply below_alloc | apply pw_below_drewN | apply below_drew1) | exact HB.out))) : w.heap.size ≤ gb560)); have n3_ := Aside0.mk ((by rw [hg]; exact (below_size (by repeat (first | (with_reducible first | exact HB.out | apply below_alloc | apply pw_below_drewN | apply below_drew1) | exact HB.out))) : w.heap.size ≤ gb560)); clear HB; have HB := n0_; have BK560 := n1_; have GW560 := n2_; have GE560 := n3_; clear n0_ n1_ n2_ n3_; clear hb hbox hg; have hcz11_0 : w10.cell? ⟨gb560, 0, none⟩ = some (.int .i64 a0_0) := (blk_cell BK560.out 0).trans rfl; have hcz11_1 : w10.cell? ⟨gb560, 1, none⟩ = some (.int .i64 a0_1) := (blk_cell BK560.out 1).trans rfl; have hfz11_0 := blk_frozen BK560.out 0; have hfz11_1 := blk_frozen BK560.out 1))
    go_ret
    exact ⟨by first | rfl | (simp [errW_none, errW_some] <;> rfl) | (simp [*, errW_none, errW_some] <;> rfl), by repeat (first | (with_reducible first | exact HB.out | apply below_alloc | apply pw_below_drewN | apply below_drew1 | refine below_set ?_ GE560.out) | exact HB.out)⟩

/-! ### abugidalaw16_of: function 25 -/
def abugidalaw16_of.l0 : Nat → Int → List Int → List (S55) → Int → Int → Option (List Int)
  | 0, _, _, _, _, _ => none
  | k + 1, x1, x5, x8, x9, x10 => if x10 < x9 then (if 0 ≤ x10 then (if x10 < (x8.length : Int) then (if ((rd_T55 x8 x10).f1) = x1 then (if x5.length < 17592186044416 then (abugidalaw16_of.l0 k x1 (x5 ++ [(rd_T55 x8 x10).f0]) x8 x9 (wrap64 (x10 + 1))) else (none)) else (abugidalaw16_of.l0 k x1 x5 x8 x9 (wrap64 (x10 + 1)))) else (none)) else (none)) else (some x5)
def abugidalaw16_of.f (k : Nat) (l0 : List (S55)) (a1 : Int) : Option (List Int) := abugidalaw16_of.l0 k a1 ([] : List Int) l0 (l0.length : Int) 0
theorem abugidalaw16_of.mono_l : ∀ k, (∀ y0 y1 y2 y3 y4, LeO (abugidalaw16_of.l0 k y0 y1 y2 y3 y4) (abugidalaw16_of.l0 (k + 1) y0 y1 y2 y3 y4))
  | 0 => fun _ _ _ _ _ r h => by simp [abugidalaw16_of.l0] at h
  | k + 1 => by
    have ih0 := abugidalaw16_of.mono_l k
    · intro y0 y1 y2 y3 y4
      unfold abugidalaw16_of.l0
      repeat' first
      | (with_reducible exact ih0 _ _ _ _ _)
      | (with_reducible exact LeO.refl _)
      | (with_reducible exact LeO.none _)
      | (with_reducible refine LeO.ite ?_ ?_)
      | (with_reducible refine LeO.bind ?_ (fun _ => ?_))
      | exact ih0 _ _ _ _ _
      | exact LeO.none _
      | refine LeO.ite ?_ ?_
      | refine LeO.bind ?_ (fun _ => ?_)
theorem abugidalaw16_of.mono : ∀ a0 a1 k, LeO (abugidalaw16_of.f k a0 a1) (abugidalaw16_of.f (k + 1) a0 a1) := by
  intro a0 a1 k
  have ih0 := abugidalaw16_of.mono_l k
  unfold abugidalaw16_of.f
  repeat' first
      | (with_reducible exact ih0 _ _ _ _ _)
      | (with_reducible exact LeO.refl _)
      | (with_reducible exact LeO.none _)
      | (with_reducible refine LeO.ite ?_ ?_)
      | (with_reducible refine LeO.bind ?_ (fun _ => ?_))
      | exact ih0 _ _ _ _ _
      | exact LeO.none _
      | refine LeO.ite ?_ ?_
      | refine LeO.bind ?_ (fun _ => ?_)
set_option maxHeartbeats 8000000 in
set_option maxRecDepth 100000 in
theorem abugidalaw16_of.calls (k : Nat) (A0 : Option Addr) (c0 : Nat) (l0 : List (S55)) (a1 : Int) (r : List Int) (w : World) (hr0 : Kd.C k55 w A0 l0.length l0) (hc0 : l0.length ≤ c0) (h : abugidalaw16_of.f k l0 a1 = some r) :
    Calls Try.prog 25 #[.slice A0 l0.length c0, .int .i64 a1] w fun e w' => ∃ v0_ : Value, e = .returned (v0_) ∧ Kd.R (Kd.int .i64) 3 w' w.heap.size (fun _ => True) v0_ r ∧ Below w.heap.size w w' := by
  have hu55 := Try.underlying55
  have HR0 := Aside0.mk hr0
  have HC0 := Aside0.mk hc0
  clear hr0 hc0
  have HB := Aside0.mk (Below.refl w.heap.size w)
  have H : (abugidalaw16_of.l0 k a1 ([] : List Int) l0 (l0.length : Int) 0) = some r := h
  clear h
  have H' := Aside0.mk H
  clear H
  go_enter Try.func25, Try.ntmps25
  go_wp2
  go_loopg [5, 10] k (fun kq v5 v10 w' => ∃ (x5_1 : List Int) (x10_1 : Int), v10 = .int .i64 x10_1 ∧ Aside0 (abugidalaw16_of.l0 kq a1 x5_1 l0 (l0.length : Int) x10_1 = some r) ∧ Aside0 (kq ≤ k) ∧ Aside0 (Kd.R (Kd.int .i64) 3 w' w.heap.size (fun _ => True) v5 x5_1) ∧ Aside0 (Below w.heap.size w w'))
  case atStart => exact ⟨(([] : List Int)), (0), (by first | rfl | (simp; done) | (simp [*]; done)), H', ⟨Nat.le_refl _⟩, ⟨by first | exact Kd.R_nil _ _ _ _ _ | exact Kd.N_nil _ _ _ _ _ | exact Kd.V_nil _ _ _ _ _ | exact Kd.Q_nil _ _ _ _ _ | exact Kd.S_nil _ _ _ _ _⟩, ⟨by repeat (first | (with_reducible first | exact HB.out | apply below_alloc | apply pw_below_drewN | apply below_drew1) | exact HB.out)⟩⟩
  case round =>
    clear H'
    try clear c2
    try clear p2
    obtain ⟨x5_1, x10_1, rfl, HA, HK1, HO_5, HB⟩ := hrel
    cases gk with
    | zero => exact absurd HA.out (by simp [abugidalaw16_of.l0])
    | succ k1 =>
      have H := HA.out
      clear HA
      simp only [abugidalaw16_of.l0] at H
      by_cases c3 : x10_1 < (l0.length : Int)
      · rw [if_pos c3] at H
        have c3b0 : decide (x10_1 < (l0.length : Int)) = true := decide_eq_true c3
        clear c3
        by_cases c4 : 0 ≤ x10_1
        · rw [if_pos c4] at H
          have c4b0 : decide (0 ≤ x10_1) = true := decide_eq_true c4
          clear c4
          by_cases c5 : x10_1 < (l0.length : Int)
          · rw [if_pos c5] at H
            have c5b0 : decide (x10_1 < (l0.length : Int)) = true := decide_eq_true c5
            clear c5
            by_cases c6 : ((rd_T55 l0 x10_1).f1) = a1
            · rw [if_pos c6] at H
              have c6b0 : (((rd_T55 l0 x10_1).f1) == a1) = true := beq_iff_eq.mpr c6
              have c6b1 : (((rd_T55 l0 x10_1).f1) != a1) = false := bne_eq_false_iff_eq.mpr c6
              clear c6
              by_cases c7 : x5_1.length < 17592186044416
              · rw [if_pos c7] at H
                have LMc7 := Aside0.mk c7
                clear c7
                obtain ⟨y564, hy564⟩ : ∃ y_ : List Int, y_ = (x5_1 ++ [(rd_T55 l0 x10_1).f0]) := ⟨_, rfl⟩
                replace H : (abugidalaw16_of.l0 k1 a1 y564 l0 (l0.length : Int) (wrap64 (x10_1 + 1))) = some r := by first | (rw [hy564]; with_reducible exact H) | (have H2_ := (Option.bind_some _ _).symm.trans H; rw [hy564]; with_reducible exact H2_) | (have H2_ := (Option.bind_some _ _).symm.trans H; with_reducible exact H2_) | with_reducible exact H | (rw [hy564]; exact H) | exact H
                have Ny564 := Aside0.mk hy564
                clear hy564
                have H' := Aside0.mk H
                clear H
                have p562 : 0 ≤ (x10_1 : Int) := of_decide_eq_true (by first | (with_reducible assumption) | assumption)
                have q562 : x10_1 < (l0.length : Int) := of_decide_eq_true (by first | (with_reducible assumption) | assumption)
                obtain ⟨ad562, e562, hx562_0, hx562_1⟩ := at_T55 HR0.out x10_1 p562 q562
                cases e562
                replace hx562_0 := (HB.out.cell (World.block_lt_of_cell? w _ hx562_0)).trans hx562_0
                replace hx562_1 := (HB.out.cell (World.block_lt_of_cell? w _ hx562_1)).trans hx562_1
                replace p562 := eq_true p562
                replace q562 := eq_true q562
                go_wp2_with (first | ((with_reducible refine gate_dst (N := 7) rfl ?_); refine box_event ?hg (N := 7) ?hd (cs := #[.int .i64 0, .int .i64 0]) (t := 55) ?hr ?_; (case hd => rfl); (case hg => rfl); (case hr => first | (go_simp; done) | (go_simp; rfl)); intro gb563 hg w8 hbox hb; have n0_ := Aside0.mk (Kd.R_below (by (with_reducible repeat (first | apply Kd.R_alloc | apply Kd.R_drewN | apply Kd.R_drew)); exact HO_5.out) hb); have n1_ := Aside0.mk (below_step (by repeat (first | (with_reducible first | exact HB.out | apply below_alloc | apply pw_below_drewN | apply below_drew1) | exact HB.out)) hb); have n2_ := Aside0.mk (hbox); have n3_ := Aside0.mk ((by rw [hg]; exact (below_size (by repeat (first | (with_reducible first | exact HB.out | apply below_alloc | apply pw_below_drewN | apply below_drew1) | exact HB.out))) : w.heap.size ≤ gb563)); have n4_ := Aside0.mk ((by rw [hg]; exact (below_size (by repeat (first | (with_reducible first | exact HB.out | apply below_alloc | apply pw_below_drewN | apply below_drew1) | exact HB.out))) : w.heap.size ≤ gb563)); clear HO_5; clear HB; have HO_5 := n0_; have HB := n1_; have BK563 := n2_; have GW563 := n3_; have GE563 := n4_; clear n0_ n1_ n2_ n3_ n4_; clear hb hbox hg; have hcz9_0 : w8.cell? ⟨gb563, 0, none⟩ = some (.int .i64 0) := (blk_cell BK563.out 0).trans rfl; have hcz9_1 : w8.cell? ⟨gb563, 1, none⟩ = some (.int .i64 0) := (blk_cell BK563.out 1).trans rfl; have hfz9_0 := blk_frozen BK563.out 0; have hfz9_1 := blk_frozen BK563.out 1) | ((with_reducible refine gate_builtin (b := .append) (xs := #[.tmp 18, .tmp 21]) rfl ?_); at_builtin; refine Kd.R_append (Kd.int .i64) (w0 := w) w.heap.size rfl (.tmp 18) (.tmp 21) 26 3 (.int .i64 0) 8 rfl Try.underlying26 info3 rfl (by decide) (by omega) u5 x5_1 ((rd_T55 l0 x10_1).f0) [.int .i64 ((rd_T55 l0 x10_1).f0)] (fun _ => True) (fun _ => False) rfl (by first | (go_simp; done) | (go_simp; rfl)) ?aP (fun _ hk => hk.elim) ?aF ?aO ?aB ?aS ?aL ?_; (case aP => exact rfl); (case aB => exact (by repeat (first | (with_reducible first | exact HB.out | apply below_alloc | apply pw_below_drewN | apply below_drew1 | refine below_set ?_ GE563.out) | exact HB.out))); (case aF => exact (fun _ _ => trivial)); (case aO => exact (by (with_reducible repeat (first | apply Kd.R_alloc | apply Kd.R_drewN | apply Kd.R_drew)); exact Kd.R_mono (Kd.R_far (p := ⟨gb563, 1, none⟩) (Kd.R_far (p := ⟨gb563, 0, none⟩) (Kd.R_types HO_5.out BK563.out (by decide)) (fun _ hk => hk.2) (.int .i64 ((rd_T55 l0 x10_1).f0))) (fun _ hk => hk.2) (.int .i64 ((rd_T55 l0 x10_1).f1))) (fun _ hk => trivial))); (case aS => exact (below_size (by repeat (first | (with_reducible first | exact HB.out | apply below_alloc | apply pw_below_drewN | apply below_drew1 | refine below_set ?_ GE563.out) | exact HB.out)))); (case aL => have := LMc7.out; omega); intro v565 w10 ho hb hg hat; rw [← Ny564.out] at ho; have n0_ := Aside0.mk (blk_grown (g := gb563) (o := .cells #[.int .i64 ((rd_T55 l0 x10_1).f0), .int .i64 ((rd_T55 l0 x10_1).f1)] 55 (0, 0)) (by (with_reducible repeat (first | refine blk_drewN ?_ _ | refine blk_drew ?_ | refine blk_alloc ?_ _)); refine blk_put (cs := #[.int .i64 ((rd_T55 l0 x10_1).f0), .int .i64 0]) ?_ 1 _ rfl; (with_reducible repeat (first | refine blk_drewN ?_ _ | refine blk_drew ?_ | refine blk_alloc ?_ _)); refine blk_put (cs := #[.int .i64 0, .int .i64 0]) ?_ 0 _ rfl; (with_reducible repeat (first | refine blk_drewN ?_ _ | refine blk_drew ?_ | refine blk_alloc ?_ _)); exact BK563.out) hg (Kd.R_ne HO_5.out BK563.out (by decide))); have n1_ := Aside0.mk (hb); have n2_ := Aside0.mk (ho); clear BK563; clear HB; clear HO_5; have BK563 := n0_; have HB := n1_; have HO566 := n2_; clear n0_ n1_ n2_; clear ho hb hg hat))
                go_roundg k1
                case measure => have := HK1.out; omega
                case rel => exact ⟨(y564), (wrap64 (x10_1 + 1)), (by first | rfl | (simp; done) | (simp [*]; done)), H', ⟨by have := HK1.out; omega⟩, ⟨by (with_reducible repeat (first | apply Kd.R_alloc | apply Kd.R_drewN | apply Kd.R_drew)); exact HO566.out⟩, ⟨by repeat (first | (with_reducible first | exact HB.out | apply below_alloc | apply pw_below_drewN | apply below_drew1 | refine below_set ?_ GE563.out) | exact HB.out)⟩⟩
              · rw [if_neg c7] at H
                exact absurd H (by simp)
            · rw [if_neg c6] at H
              have c6b0 : (((rd_T55 l0 x10_1).f1) == a1) = false := beq_eq_false_iff_ne.mpr c6
              have c6b1 : (((rd_T55 l0 x10_1).f1) != a1) = true := bne_iff_ne.mpr c6
              have H' := Aside0.mk H
              clear H
              have p562 : 0 ≤ (x10_1 : Int) := of_decide_eq_true (by first | (with_reducible assumption) | assumption)
              have q562 : x10_1 < (l0.length : Int) := of_decide_eq_true (by first | (with_reducible assumption) | assumption)
              obtain ⟨ad562, e562, hx562_0, hx562_1⟩ := at_T55 HR0.out x10_1 p562 q562
              cases e562
              replace hx562_0 := (HB.out.cell (World.block_lt_of_cell? w _ hx562_0)).trans hx562_0
              replace hx562_1 := (HB.out.cell (World.block_lt_of_cell? w _ hx562_1)).trans hx562_1
              replace p562 := eq_true p562
              replace q562 := eq_true q562
              go_wp2_with (first | ((with_reducible refine gate_dst (N := 7) rfl ?_); refine box_event ?hg (N := 7) ?hd (cs := #[.int .i64 0, .int .i64 0]) (t := 55) ?hr ?_; (case hd => rfl); (case hg => rfl); (case hr => first | (go_simp; done) | (go_simp; rfl)); intro gb563 hg w11 hbox hb; have n0_ := Aside0.mk (Kd.R_below (by (with_reducible repeat (first | apply Kd.R_alloc | apply Kd.R_drewN | apply Kd.R_drew)); exact HO_5.out) hb); have n1_ := Aside0.mk (below_step (by repeat (first | (with_reducible first | exact HB.out | apply below_alloc | apply pw_below_drewN | apply below_drew1) | exact HB.out)) hb); have n2_ := Aside0.mk (hbox); have n3_ := Aside0.mk ((by rw [hg]; exact (below_size (by repeat (first | (with_reducible first | exact HB.out | apply below_alloc | apply pw_below_drewN | apply below_drew1) | exact HB.out))) : w.heap.size ≤ gb563)); have n4_ := Aside0.mk ((by rw [hg]; exact (below_size (by repeat (first | (with_reducible first | exact HB.out | apply below_alloc | apply pw_below_drewN | apply below_drew1) | exact HB.out))) : w.heap.size ≤ gb563)); clear HO_5; clear HB; have HO_5 := n0_; have HB := n1_; have BK563 := n2_; have GW563 := n3_; have GE563 := n4_; clear n0_ n1_ n2_ n3_ n4_; clear hb hbox hg; have hcz12_0 : w11.cell? ⟨gb563, 0, none⟩ = some (.int .i64 0) := (blk_cell BK563.out 0).trans rfl; have hcz12_1 : w11.cell? ⟨gb563, 1, none⟩ = some (.int .i64 0) := (blk_cell BK563.out 1).trans rfl; have hfz12_0 := blk_frozen BK563.out 0; have hfz12_1 := blk_frozen BK563.out 1))
              go_roundg k1
              case measure => have := HK1.out; omega
              case rel => exact ⟨(x5_1), (wrap64 (x10_1 + 1)), (by first | rfl | (simp; done) | (simp [*]; done)), H', ⟨by have := HK1.out; omega⟩, ⟨by (with_reducible repeat (first | apply Kd.R_alloc | apply Kd.R_drewN | apply Kd.R_drew)); exact Kd.R_mono (Kd.R_far (p := ⟨gb563, 1, none⟩) (Kd.R_far (p := ⟨gb563, 0, none⟩) (Kd.R_types HO_5.out BK563.out (by decide)) (fun _ hk => hk.2) (.int .i64 ((rd_T55 l0 x10_1).f0))) (fun _ hk => hk.2) (.int .i64 ((rd_T55 l0 x10_1).f1))) (fun _ hk => trivial)⟩, ⟨by repeat (first | (with_reducible first | exact HB.out | apply below_alloc | apply pw_below_drewN | apply below_drew1 | refine below_set ?_ GE563.out) | exact HB.out)⟩⟩
          · rw [if_neg c5] at H
            exact absurd H (by simp)
        · rw [if_neg c4] at H
          exact absurd H (by simp)
      · rw [if_neg c3] at H
        have c3b0 : decide (x10_1 < (l0.length : Int)) = false := decide_eq_false c3
        clear c3
        obtain rfl := Option.some.inj H
        go_wp2
        go_ret
        exact ⟨_, by first | rfl | (simp [errW_none, errW_some] <;> rfl) | (simp [*, errW_none, errW_some] <;> rfl), by (with_reducible repeat (first | apply Kd.R_alloc | apply Kd.R_drewN | apply Kd.R_drew)); exact HO_5.out, by repeat (first | (with_reducible first | exact HB.out | apply below_alloc | apply pw_below_drewN | apply below_drew1) | exact HB.out)⟩

-- NOT PRINTED: function 5 (abugidalaw16_RulesClusters)

-- NOT PRINTED: function 6 (abugidalaw16_RulesCalls)

end Go.Proofs.Ytlgkeaildncojaa.Q
end
section
-- Written by wip/tools/myprint.py, a program of this session that drives the kit's print.py; not a text of print.sh.
namespace Go.Proofs.Ytlgkeaildncojaa.Q
open Go.RowKit Go.Proofs.YtlgkeaildncojaaW.PrintWords Go.Proofs.YtlgkeaildncojaaW.PrintLast Go.Proofs.YtlgkeaildncojaaW.PrintMore
attribute [local go_sem] max2_int min2_int max_two min_two max_three min_three max_four min_four   -- for this text's walks alone
set_option linter.unusedVariables false
set_option linter.unusedSimpArgs false

/-! ### sets_Has: function 27 -/
def sets_Has.f (k : Nat) (l0 : List Int) (a1 : Int) : Option (Bool) := (slices_Contains_int_int.f k l0 a1).bind fun t623 => (some t623)
theorem sets_Has.mono : ∀ a0 a1 k, LeO (sets_Has.f k a0 a1) (sets_Has.f (k + 1) a0 a1) := by
  intro a0 a1 k
  unfold sets_Has.f
  repeat' first
      | (with_reducible exact slices_Contains_int_int.mono _ _ _)
      | (with_reducible exact LeO.refl _)
      | (with_reducible exact LeO.none _)
      | (with_reducible refine LeO.ite ?_ ?_)
      | (with_reducible refine LeO.bind ?_ (fun _ => ?_))
      | exact slices_Contains_int_int.mono _ _ _
      | exact LeO.none _
      | refine LeO.ite ?_ ?_
      | refine LeO.bind ?_ (fun _ => ?_)
set_option maxHeartbeats 8000000 in
set_option maxRecDepth 100000 in
theorem sets_Has.calls (k : Nat) (A0 : Option Addr) (c0 : Nat) (l0 : List Int) (a1 : Int) (r : Bool) (w : World) (hr0 : Kd.C (Kd.int .i64) w A0 l0.length l0) (hc0 : l0.length ≤ c0) (h : sets_Has.f k l0 a1 = some r) :
    Calls Try.prog 27 #[.slice A0 l0.length c0, .int .i64 a1] w fun e w' => e = .returned (.bool r) ∧ Drawn0 w w' := by
  have HR0 := Aside0.mk hr0
  have HC0 := Aside0.mk hc0
  clear hr0 hc0
  have H : ((slices_Contains_int_int.f k l0 a1).bind fun t623 => (some t623)) = some r := h
  clear h
  replace H := Option.bind_eq_some_iff.mp H
  obtain ⟨t623, A30, H⟩ := H
  replace H : (some t623) = some r := H
  have A3 := Aside0.mk A30
  clear A30
  obtain rfl := Option.some.inj H
  go_enter Try.func27, Try.ntmps27
  go_wp2_with (first | ((with_reducible refine gate_callee (f := 37) rfl ?_); refine goesL_ (some 7) rfl rfl Try.func37 (by kernel_rfl) rfl #[.slice A0 l0.length c0, .int .i64 a1] rfl (by (try simp only [List.map_toArray, List.map_cons, List.map_nil]); first | done | rfl | (simp only [List.length_drop, List.length_take]; rfl)) ?_; (with_reducible refine (slices_Contains_int_int.calls k _ _ l0 a1 t623 _ ?side1 ?side2 A3.out).mono ?_); (case side1 => repeat (first | exact HR0.out | (with_reducible refine Kd.C_alloc ?_ _) | (with_reducible refine Kd.C_drewN ?_ _) | (with_reducible refine Kd.C_drew ?_))); (case side2 => exact HC0.out); rintro e w' ⟨rfl, ⟨nd, rfl⟩⟩; refine ⟨_, rfl, ?_⟩))
  go_ret
  exact ⟨by first | rfl | (simp; done) | (simp [*]; done), by repeat (first | exact Drawn0.refl _ | apply Drawn0.step)⟩

-- NOT PRINTED: function 8 (abugidalaw16_RulesNone)

-- NOT PRINTED: function 9 (abugidalaw16_RulesEach)

-- NOT PRINTED: function 10 (abugidalaw16_RulesFirst)

end Go.Proofs.Ytlgkeaildncojaa.Q
end
section
/- Plain words of what the laws of rules call: items that numbers make, can, of, equality, First, Has. -/
namespace Go.Proofs.Ytlgkeaildncojaa.Q
open Go.RowKit Go.Shelf Go.Proofs.YtlgkeaildncojaaW.PrintWords Go.Proofs.YtlgkeaildncojaaW.PrintLast Go.Proofs.YtlgkeaildncojaaW.PrintMore
set_option linter.unusedSimpArgs false
set_option linter.unusedVariables false
def brk (x n : Int) : Bool := decide (n > 0) && (decide (n = 6) || decide (wrap64 (Int.tdiv x 9) % 4 = 0))
def itemsF : List Int → Int → Int → List S55
  | [], _, _ => []
  | x :: t, c, n => if brk x n = true then ⟨x % 9, c + 1⟩ :: itemsF t (c + 1) 1 else ⟨x % 9, c⟩ :: itemsF t c (n + 1)
def itemsM (I : List Int) : List S55 := itemsF (I.take 24) 0 0
theorem itemsF_len : ∀ (l : List Int) (c n : Int), (itemsF l c n).length = l.length
  | [], _, _ => rfl
  | x :: t, c, n => by unfold itemsF; split <;> simp [itemsF_len t]
theorem itemsM_len (I : List Int) : (itemsM I).length ≤ 24 := by
  unfold itemsM
  rw [itemsF_len, List.length_take]
  omega
theorem ev_items_l0 (I : List Int) (d : Nat) : ∀ (i : Nat) (out : List S55) (c n : Int), i + d = min I.length 24 → out.length ≤ i → 0 ≤ c → c ≤ i → 0 ≤ n → n ≤ 6 → Ev (fun k => abugidaref16_MadeItems.l0 k I out c n (i : Int)) (out ++ itemsF ((I.take 24).drop i) c n) := by
  induction d with
  | zero =>
    intro i out c n hi ho h1 h2 h3 h4
    rw [List.drop_of_length_le (by rw [List.length_take]; omega), itemsF, List.append_nil]
    have stop : Ev (fun k => abugidaref16_MadeItems.j1 k I out c n (i : Int) false) out := by
      refine Ev.step (fun k => by rw [abugidaref16_MadeItems.j1, if_neg (by decide)]) ?_
      exact Ev.now _
    by_cases hlt : (i : Int) < (I.length : Int)
    · have e : decide ((i : Int) < 24) = false := decide_eq_false (by omega)
      exact Ev.step (fun k => by rw [abugidaref16_MadeItems.l0, if_pos hlt, e]) stop
    · exact Ev.step (fun k => by rw [abugidaref16_MadeItems.l0, if_neg hlt]) stop
  | succ d ih =>
    intro i out c n hi ho h1 h2 h3 h4
    have hlt : (i : Int) < (I.length : Int) := by omega
    have e : decide ((i : Int) < 24) = true := decide_eq_true (by omega)
    have hp : (0 : Int) ≤ (i : Int) := by omega
    have hdr : (I.take 24).drop i = rd I (i : Int) :: (I.take 24).drop (i + 1) := by
      have h5 : i < (I.take 24).length := by rw [List.length_take]; omega
      rw [List.drop_eq_getElem_cons h5, rd, Int.toNat_natCast, List.getD_eq_getElem?_getD, List.getElem?_eq_getElem (by omega), List.getElem_take]
      rfl
    have hw : wrap64 ((i : Int) + 1) = ((i + 1 : Nat) : Int) := by rw [wr64 _ (by omega) (by omega)]; omega
    have hwc : wrap64 (c + 1) = c + 1 := wr64 _ (by omega) (by omega)
    have hwn : wrap64 (n + 1) = n + 1 := wr64 _ (by omega) (by omega)
    have ho2 : out.length < 8796093022208 := by omega
    have m9 := mod_some (rd I (i : Int)) 9 (by decide) (by decide)
    have m4 := mod_some (wrap64 (Int.tdiv (rd I (i : Int)) 9)) 4 (by decide) (by decide)
    rw [hdr, itemsF]
    have hbr : Ev (fun k => abugidaref16_MadeItems.l0 k I (out ++ [(⟨rd I (i : Int) % 9, c + 1⟩ : S55)]) (c + 1) 1 ((i + 1 : Nat) : Int)) (out ++ ⟨rd I (i : Int) % 9, c + 1⟩ :: itemsF ((I.take 24).drop (i + 1)) (c + 1) 1) := by
      have := ih (i + 1) (out ++ [⟨rd I (i : Int) % 9, c + 1⟩]) (c + 1) 1 (by omega) (by simp; omega) (by omega) (by omega) (by decide) (by decide)
      rw [List.append_assoc, List.singleton_append] at this
      exact this
    have hno : n ≠ 6 → Ev (fun k => abugidaref16_MadeItems.l0 k I (out ++ [(⟨rd I (i : Int) % 9, c⟩ : S55)]) c (n + 1) ((i + 1 : Nat) : Int)) (out ++ ⟨rd I (i : Int) % 9, c⟩ :: itemsF ((I.take 24).drop (i + 1)) c (n + 1)) := fun h6 => by
      have := ih (i + 1) (out ++ [⟨rd I (i : Int) % 9, c⟩]) c (n + 1) (by omega) (by simp; omega) (by omega) (by omega) (by omega) (by omega)
      rw [List.append_assoc, List.singleton_append] at this
      exact this
    refine Ev.step (fun k => by rw [abugidaref16_MadeItems.l0, if_pos hlt, e]) ?_
    by_cases hn0 : n > 0
    · by_cases h6 : n = 6
      · rw [show brk (rd I (i : Int)) n = true by unfold brk; rw [decide_eq_true hn0, decide_eq_true h6]; rfl, if_pos rfl]
        refine Ev.step (fun k => by rw [abugidaref16_MadeItems.j1, if_pos rfl, if_pos hn0, if_pos h6, if_pos hp, if_pos hlt, m9, Option.bind_some, if_pos ho2, hwc, hw]; rfl) hbr
      · by_cases hq : wrap64 (Int.tdiv (rd I (i : Int)) 9) % 4 = 0
        · rw [show brk (rd I (i : Int)) n = true by unfold brk; rw [decide_eq_true hn0, decide_eq_true hq, Bool.or_true]; rfl, if_pos rfl]
          refine Ev.step (fun k => by rw [abugidaref16_MadeItems.j1, if_pos rfl, if_pos hn0, if_neg h6, if_pos hp, if_pos hlt, m4, Option.bind_some, if_pos hq, m9, Option.bind_some, if_pos ho2, hwc, hw]; rfl) hbr
        · rw [show brk (rd I (i : Int)) n = false by unfold brk; rw [decide_eq_true hn0, decide_eq_false h6, decide_eq_false hq]; rfl, if_neg (by decide)]
          refine Ev.step (fun k => by rw [abugidaref16_MadeItems.j1, if_pos rfl, if_pos hn0, if_neg h6, if_pos hp, if_pos hlt, m4, Option.bind_some, if_neg hq, m9, Option.bind_some, if_pos ho2, hwn, hw]) (hno h6)
    · rw [show brk (rd I (i : Int)) n = false by unfold brk; rw [decide_eq_false hn0]; rfl, if_neg (by decide)]
      refine Ev.step (fun k => by rw [abugidaref16_MadeItems.j1, if_pos rfl, if_neg hn0, if_pos hp, if_pos hlt, m9, Option.bind_some, if_pos ho2, hwn, hw]) (hno (by omega))
theorem items_ev (I : List Int) : Ev (fun k => abugidaref16_MadeItems.f k I) (itemsM I) := by
  have := ev_items_l0 I (min I.length 24) 0 [] 0 0 (by omega) (Nat.le_refl _) (Int.le_refl _) (Int.le_refl _) (Int.le_refl _) (by decide)
  rw [List.nil_append, List.drop_zero] at this
  exact this
def ofP (l : List S55) (c : Int) : List Int := (l.filter fun x => decide (x.f1 = c)).map (·.f0)
theorem sameT_l0 (L : List S55) (hL : L.length ≤ 1000) (d : Nat) : ∀ i : Nat, i + d = L.length → Ev (fun k => abugidaref16_Same.l0 k L L (i : Int)) true := by
  induction d with
  | zero =>
    intro i hi
    refine Ev.step (fun k => by simp only [abugidaref16_Same.l0, if_neg (show ¬ (i : Int) < (L.length : Int) by omega)]; rfl) ?_; exact Ev.now _
  | succ d ih =>
    intro i hi
    have hw : wrap64 ((i : Int) + 1) = ((i + 1 : Nat) : Int) := by rw [wr64 _ (by omega) (by omega)]; omega
    refine Ev.step (fun k => by simp only [abugidaref16_Same.l0, if_pos (show (i : Int) < (L.length : Int) by omega), if_pos (show (0 : Int) ≤ i by omega), beq_self_eq_true, Bool.not_true, Bool.or_self, Bool.false_eq_true, if_false, hw]; rfl) ?_
    exact ih (i + 1) (by omega)
theorem sameT_ev (L : List S55) (hL : L.length ≤ 1000) : Ev (fun k => abugidaref16_Same.f k L L) true := by
  unfold abugidaref16_Same.f
  simp only [if_true]
  exact sameT_l0 L hL L.length 0 (Nat.zero_add _)
/-- The glyphs with which rules can begin, one after the other. -/
def headsP : List S49 → List Int
  | [] => []
  | r :: rs => r.f1.headD [] ++ headsP rs
def firstP (rs : List S49) : List Int := hset (headsP rs)
end Go.Proofs.Ytlgkeaildncojaa.Q
end
section
/- Lookups that numbers make are right. -/
namespace Go.Proofs.Ytlgkeaildncojaa.Q
open Go.RowKit Go.Shelf Go.Proofs.YtlgkeaildncojaaW.PrintWords Go.Proofs.YtlgkeaildncojaaW.PrintLast Go.Proofs.YtlgkeaildncojaaW.PrintMore
set_option linter.unusedSimpArgs false
set_option linter.unusedVariables false
/-- A set of one to three of the first eight glyphs. -/
structure GoodSet (l : List Int) : Prop where
  ne : l ≠ []
  sorted : l.Pairwise (· < ·)
  small : ∀ x ∈ l, 0 ≤ x ∧ x < 8
  short : l.length ≤ 3
theorem drawN_mem (s : List Int) (m p : Int) (hm : 0 < m) : ∀ j, ∀ x ∈ (drawN s m p j).1, 0 ≤ x ∧ x < m
  | 0, x, h => by cases h
  | j + 1, x, h => by
    rw [drawN] at h
    rcases List.mem_append.mp h with h | h
    · exact drawN_mem s m p hm j x h
    · rw [List.mem_singleton] at h
      subst h
      exact nextF_v s _ m hm
theorem set1_good (s : List Int) (p : Int) : GoodSet (set1 s p).1 := by
  have hv := nextF_v s p 3 (by decide)
  have hl := drawN_length s 8 (nextF s p 3).2 (1 + (nextF s p 3).1).toNat
  unfold set1
  dsimp only
  refine ⟨fun h => ?_, hset_sorted _, fun x hx => drawN_mem s 8 _ (by decide) _ x ((mem_hset _ _).mp hx), ?_⟩
  · cases hd : (drawN s 8 (nextF s p 3).2 (1 + (nextF s p 3).1).toNat).1 with
    | nil => rw [hd, List.length_nil] at hl; omega
    | cons y t =>
      have : y ∈ hset (drawN s 8 (nextF s p 3).2 (1 + (nextF s p 3).1).toNat).1 := by rw [mem_hset, hd]; exact List.mem_cons_self
      rw [h] at this
      cases this
  · have := len_hset (drawN s 8 (nextF s p 3).2 (1 + (nextF s p 3).1).toNat).1
    omega
theorem setsN_good (s : List Int) (p : Int) : ∀ j, ∀ l ∈ (setsN s p j).1, GoodSet l
  | 0, l, h => by cases h
  | j + 1, l, h => by
    rw [setsN] at h
    rcases List.mem_append.mp h with h | h
    · exact setsN_good s p j l h
    · rw [List.mem_singleton] at h
      subst h
      exact set1_good s _
theorem someF_good (s : List Int) (p : Int) : (someF s p).1.length ≤ 2 ∧ ∀ l ∈ (someF s p).1, GoodSet l := by
  unfold someF
  split
  · have hv := nextF_v s (nextF s p 3).2 2 (by decide)
    exact ⟨by rw [setsN_length]; omega, setsN_good s _ _⟩
  · exact ⟨Nat.zero_le _, fun l h => by cases h⟩
theorem callsN_good (s : List Int) (k m p : Int) (hm : 0 < m) (hk : 0 ≤ k ∧ k < 2) : ∀ j, ∀ c ∈ (callsN s k m p j).1, 0 ≤ c.f0 ∧ c.f0 < m ∧ k < c.f1 ∧ c.f1 < 3
  | 0, c, h => by cases h
  | j + 1, c, h => by
    rw [callsN] at h
    rcases List.mem_append.mp h with h | h
    · exact callsN_good s k m p hm hk j c h
    · rw [List.mem_singleton] at h
      subst h
      have h1 := nextF_v s (callsN s k m p j).2 m hm
      have h2 := nextF_v s (nextF s (callsN s k m p j).2 m).2 (2 - k) (by omega)
      dsimp only
      omega
/-- A rule that numbers make, in the lookup k. -/
structure MadeR (k : Int) (r : S49) : Prop where
  l0 : r.f0.length ≤ 2
  l1 : 1 ≤ r.f1.length ∧ r.f1.length ≤ 3
  l2 : r.f2.length ≤ 2
  l3 : r.f3.length ≤ 3
  l4 : r.f4.length ≤ 2
  one : r.f3 = [] ∨ r.f4 = []
  s0 : ∀ l ∈ r.f0, GoodSet l
  s1 : ∀ l ∈ r.f1, GoodSet l
  s2 : ∀ l ∈ r.f2, GoodSet l
  s3 : ∀ x ∈ r.f3, 0 ≤ x ∧ x < 8
  s4 : ∀ c ∈ r.f4, 0 ≤ c.f0 ∧ c.f0 < (r.f1.length : Int) ∧ k < c.f1 ∧ c.f1 < 3
theorem actF_good (s : List Int) (k m p : Int) (hm : 0 < m) (hk : 0 ≤ k) : (actF s k m p).1.length ≤ 3 ∧ (actF s k m p).2.1.length ≤ 2 ∧ ((actF s k m p).1 = [] ∨ (actF s k m p).2.1 = []) ∧ (∀ x ∈ (actF s k m p).1, 0 ≤ x ∧ x < 8) ∧ ∀ c ∈ (actF s k m p).2.1, 0 ≤ c.f0 ∧ c.f0 < m ∧ k < c.f1 ∧ c.f1 < 3 := by
  have hv := nextF_v s p 4 (by decide)
  unfold actF
  dsimp only
  split
  · split
    · exact ⟨Nat.zero_le _, by rw [callsN_length]; omega, .inl rfl, fun x h => (by cases h), callsN_good s k m _ hm (by omega) _⟩
    · exact ⟨by rw [drawN_length]; omega, Nat.zero_le _, .inr rfl, drawN_mem s 8 _ (by decide) _, fun x h => by cases h⟩
  · exact ⟨by rw [drawN_length]; omega, Nat.zero_le _, .inr rfl, drawN_mem s 8 _ (by decide) _, fun x h => by cases h⟩
theorem rule1_good (s : List Int) (k p : Int) (hp : InS s p) (hk : 0 ≤ k) : MadeR k (rule1 s k p).1 := by
  have hm := (manyF_p s p hp).2
  have h1 := setsN_length s (manyF s p).2 (manyF s p).1
  have h3 := someF_good s (setsN s (manyF s p).2 (manyF s p).1).2
  have h4 := someF_good s (someF s (setsN s (manyF s p).2 (manyF s p).1).2).2
  have h5 := actF_good s k ((setsN s (manyF s p).2 (manyF s p).1).1.length : Int) (someF s (someF s (setsN s (manyF s p).2 (manyF s p).1).2).2).2 (by omega) hk
  obtain ⟨g1, g2, g3, g4, g5⟩ := h5
  exact ⟨h3.1, by rw [show (rule1 s k p).1.f1 = (setsN s (manyF s p).2 (manyF s p).1).1 from rfl, h1]; omega, h4.1, g1, g2, g3, h3.2, setsN_good s _ _, h4.2, g4, g5⟩
theorem rulesN_good (s : List Int) (k p : Int) (hp : InS s p) (hk : 0 ≤ k) : ∀ j, ∀ r ∈ (rulesN s k p j).1, MadeR k r
  | 0, r, h => by cases h
  | j + 1, r, h => by
    rw [rulesN] at h
    rcases List.mem_append.mp h with h | h
    · exact rulesN_good s k p hp hk j r h
    · rw [List.mem_singleton] at h
      subst h
      exact rule1_good s k _ (rulesN_p s k p hp j) hk
theorem madeF_good (s : List Int) (k : Int) (hk : 0 ≤ k) : (madeF s k).f0.length ≤ 3 ∧ ∀ r ∈ (madeF s k).f0, MadeR k r := by
  have hv := nextF_v s 0 4 (by decide)
  have hp := nextF_p s 0 4 (Int.le_refl _) (by omega)
  unfold madeF
  dsimp only
  exact ⟨by rw [rulesN_length]; omega, rulesN_good s k _ hp hk _⟩
theorem right_of_sorted : ∀ l : List Int, l.Pairwise (· < ·) → rightP l = true
  | [], _ => rfl
  | [_], _ => rfl
  | x :: y :: t, h => by
    unfold rightP
    have h1 := (List.pairwise_cons.mp h).1 y List.mem_cons_self
    rw [if_neg (by omega)]
    exact right_of_sorted (y :: t) (List.pairwise_cons.mp h).2
theorem GoodSet.wrong {l : List Int} (h : GoodSet l) : wrongP l = false := by
  unfold wrongP
  rw [right_of_sorted l h.sorted]
  cases l with
  | nil => exact absurd rfl h.ne
  | cons x t => rfl
theorem GoodSet.known {l : List Int} (h : GoodSet l) {G : Int} (hG : 8 ≤ G) : l.any (unkP G) = false := by
  rw [List.any_eq_false]
  intro x hx
  have := h.small x hx
  unfold unkP
  simp
  omega
theorem MadeR.ok {k : Int} {r : S49} (h : MadeR k r) {G : Int} (hG : 8 ≤ G) : ruleP r k 3 G = 0 := by
  have hall : ∀ l ∈ r.f1 ++ r.f0 ++ r.f2, GoodSet l := fun l hl => by
    rcases List.mem_append.mp hl with hl | hl
    · rcases List.mem_append.mp hl with hl | hl
      · exact h.s1 l hl
      · exact h.s0 l hl
    · exact h.s2 l hl
  have hb := h.l1
  have h0 := h.l0
  have h2 := h.l2
  have h3 := h.l3
  have h4 := h.l4
  unfold ruleP
  rw [if_neg (by omega), if_neg (by
    intro hc
    rcases h.one with e | e
    · rw [e, List.length_nil] at hc; omega
    · rw [e, List.length_nil] at hc; omega), if_neg (by
    intro hc
    obtain ⟨l, hl, hw⟩ := List.any_eq_true.mp hc
    rw [(hall l hl).wrong] at hw
    cases hw), if_neg (by
    intro hc
    rcases hc with hc | hc
    · obtain ⟨l, hl, hw⟩ := List.any_eq_true.mp hc
      rw [(hall l hl).known hG] at hw
      cases hw
    · obtain ⟨x, hx, hw⟩ := List.any_eq_true.mp hc
      have := h.s3 x hx
      unfold unkP at hw
      simp at hw
      omega), if_neg (by
    intro hc
    obtain ⟨c, hx, hw⟩ := List.any_eq_true.mp hc
    have := h.s4 c hx
    unfold callP at hw
    simp at hw
    omega)]
theorem madeAll_get (L : List (List Int)) (k : Nat) (hk : k < 3) : (madeAll L).getD k z24 = madeF (L.getD k []) (k : Int) := by
  unfold madeAll madeN
  rw [List.getD_eq_getElem?_getD, List.getElem?_map, List.getElem?_range hk]
  rfl
theorem madeAll_len (L : List (List Int)) : (madeAll L).length = 3 := madeN_length L 3
theorem madeAll_good (L : List (List Int)) (k : Nat) (hk : k < 3) : ((madeAll L).getD k z24).f0.length ≤ 3 ∧ ∀ r ∈ ((madeAll L).getD k z24).f0, MadeR (k : Int) r := by
  rw [madeAll_get L k hk]
  exact madeF_good _ _ (by omega)
theorem madeAll_3 (L : List (List Int)) (i : Nat) : ((madeAll L).getD i z24).f0.length ≤ 3 := by
  by_cases h : i < 3
  · exact (madeAll_good L i h).1
  · rw [List.getD_eq_getElem?_getD, List.getElem?_eq_none (by rw [madeAll_len]; omega)]
    exact Nat.zero_le 3
theorem MadeR.first {k : Int} : ∀ {rs : List S49}, (∀ r ∈ rs, MadeR k r) → (∀ x ∈ headsP rs, 0 ≤ x ∧ x < 8) ∧ (headsP rs).length ≤ 3 * rs.length
  | [], _ => ⟨fun x h => (by cases h), Nat.le_refl _⟩
  | r :: rs, h => by
    obtain ⟨g1, g2⟩ := MadeR.first (rs := rs) (fun r hr => h r (List.mem_cons_of_mem _ hr))
    have hr := h r List.mem_cons_self
    unfold headsP
    cases hf : r.f1 with
    | nil => have := hr.l1; rw [hf, List.length_nil] at this; omega
    | cons s t =>
      have hs := hr.s1 s (by rw [hf]; exact List.mem_cons_self)
      refine ⟨fun x hx => ?_, ?_⟩
      · rcases List.mem_append.mp hx with hx | hx
        · exact hs.small x hx
        · exact g1 x hx
      · have := hs.short
        rw [List.length_append, List.headD_cons, List.length_cons]
        omega
end Go.Proofs.Ytlgkeaildncojaa.Q
end
section
/- made: lookups, items, and which clusters may, of a case. -/
namespace Go.Proofs.Ytlgkeaildncojaa.Q
open Go.RowKit Go.Shelf Go.Proofs.YtlgkeaildncojaaW.PrintWords Go.Proofs.YtlgkeaildncojaaW.PrintLast Go.Proofs.YtlgkeaildncojaaW.PrintMore
set_option linter.unusedSimpArgs false
set_option linter.unusedVariables false
theorem results_tmp4 {fn : Func} {t u v x : Tmp} (h : fn.results = #[.tmp t, .tmp u, .tmp v, .tmp x]) (tmps : Array Value) (P : Program) (w : World) :
    (results fn tmps).run P w = .ok (.tuple #[tmps.getD t undef, tmps.getD u undef, tmps.getD v undef, tmps.getD x undef]) w := by
  simp [results, h]
theorem Own.tail {w W : World} {r : Res} {L : List Res} {K : Nat → Obj → Prop} (h : Own w W (r :: L) K) : Own w W L K := by
  obtain ⟨h1, hk0, F, h2⟩ := h
  refine ⟨h1, hk0, fun k => F k - 1, fun i q hi => q.move (h2 (i + 1) q (by simpa using hi)) (fun k hk hl _ => ⟨rfl, hk.1, ?_⟩)⟩
  dsimp only
  rw [hk.2]
  rfl
theorem hi4 : ∃ i, Try.prog.info? 4 = some i := by
  cases h : Try.prog.info? 4 with
  | none => exact absurd info4 (by rw [h]; simp)
  | some i => exact ⟨i, rfl⟩
set_option maxRecDepth 100000 in
set_option maxHeartbeats 4000000 in
theorem case_calls (A0 : Option Addr) (c0 : Nat) (L : List (List Int)) (A1 : Option Addr) (c1 : Nat) (I : List Int) (o0 o1 o2 kq : Int) (A4 : Option Addr) (c4 : Nat) (M : List Bool) (its : List S55) (w : World)
    (hr0 : Kd.C (Kd.slice 3 (Kd.int .i64)) w A0 L.length L) (hc0 : L.length ≤ c0) (hll : ∀ s ∈ L, s.length ≤ 9223372036854775807) (hr1 : Kd.C (Kd.int .i64) w A1 I.length I) (hc1 : I.length ≤ c1) (hc4 : M.length ≤ c4) (hk : 0 ≤ kq ∧ kq ≤ 255) (n : Nat) (hits : abugidaref16_MadeItems.f n I = some its) :
    Calls Try.prog 12 #[.agg #[.slice A0 L.length c0, .slice A1 I.length c1, .int .i64 o0, .int .i64 o1, .int .i64 o2, .int .u8 kq, .slice A4 M.length c4]] w fun e w' => ∃ v1 v3, e = .returned (.tuple #[v1, .int .i64 (kq % 3), v3, .slice A4 (min M.length 30) c4]) ∧ Own w w' [.row k24 24 w.heap.size v1 (madeAll L), .row k55 55 w.heap.size v3 its] := by
  have HR0 := Aside0.mk hr0
  have HC0 := Aside0.mk hc0
  have HLL := Aside0.mk hll
  have HR1 := Aside0.mk hr1
  have HC1 := Aside0.mk hc1
  have HITS := Aside0.mk hits
  have HO := Own.start w
  obtain ⟨mm, hmm⟩ : ∃ mm, min M.length 30 = mm := ⟨_, rfl⟩
  rw [hmm]
  have hmin : min (M.length : Int) 30 = (mm : Int) := by omega
  have hb0 : (0 : Int) ≤ (mm : Int) := by omega
  have hb1 : (mm : Int) ≤ (M.length : Int) := by omega
  have hb2 : (mm : Int) ≤ (c4 : Int) := by omega
  obtain ⟨i4, hi⟩ := hi4
  have hcut : ∀ W : World, (Instr.slice 28 (.slice A4 M.length c4) none (some (.int .i64 (mm : Int))) none).run Try.prog W = .ok (.slice A4 mm c4) W := fun W => by have := cut_to (P := Try.prog) 28 4 .i64 Try.underlying28 hi A4 M.length c4 (mm : Int) (by omega) (by omega) hc4 W; rwa [Int.toNat_natCast] at this
  clear hmm
  have hkw : IntKind.i64.wrap kq = kq := IntWalk.i64_in _ (by omega)
  have hkm : Int.tmod kq 3 = kq % 3 := Int.tmod_eq_emod_of_nonneg hk.1
  clear hr0 hc0 hll hr1 hc1 hits hi
  go_enter Try.func12, Try.ntmps12
  go_upto_region 1 with (first
    | ((with_reducible refine gate_dst (N := 1) rfl ?_); refine ev_box (N := 1) (cs := #[.slice A0 L.length c0, .slice A1 I.length c1, .int .i64 o0, .int .i64 o1, .int .i64 o2, .int .u8 kq, .slice A4 M.length c4]) (t := 30) HO rfl rfl ?hr ?_; (case hr => first | (go_simp; done) | (go_simp; rfl)); intro g1 W1 HO1 hb1; clear HO hb1; have x0 := HO1.box_cell 0 rfl 0 rfl; have x1 := HO1.box_cell 0 rfl 1 rfl; have x5 := HO1.box_cell 0 rfl 5 rfl; have x6 := HO1.box_cell 0 rfl 6 rfl))
  go_region_held3 (fun w' => w'.cell? ⟨g1, 0, none⟩ = some (.slice A0 L.length c0) ∧ w'.cell? ⟨g1, 1, none⟩ = some (.slice A1 I.length c1) ∧ w'.cell? ⟨g1, 5, none⟩ = some (.int .u8 kq) ∧ w'.cell? ⟨g1, 6, none⟩ = some (.slice A4 M.length c4)) (go_keep)
    (first
      | (go_at_call 31; refine (madeall_calls A0 c0 L _ (HO1.drew.old HR0.out) HC0.out HLL.out).mono ?_; rintro e_ W2 ⟨v1, rfl, hR, hb⟩; have HO2 := HO1.drew.called hb hR; clear HO1 hR hb x0 x1 x5 x6; have x0 := HO2.box_cell 0 rfl 0 rfl; have x1 := HO2.box_cell 0 rfl 1 rfl; have x5 := HO2.box_cell 0 rfl 5 rfl; have x6 := HO2.box_cell 0 rfl 6 rfl)
      | (go_at_call 32; refine (abugidaref16_MadeItems.calls n A1 c1 I its _ (HO2.old HR1.out) HC1.out HITS.out).mono ?_; rintro e_ W3 ⟨v3, rfl, hR, hb⟩; have HO3 := HO2.called hb hR; clear HO2 hR hb x0 x1 x5 x6; have x0 := HO3.box_cell 0 rfl 0 rfl; have x1 := HO3.box_cell 0 rfl 1 rfl; have x5 := HO3.box_cell 0 rfl 5 rfl; have x6 := HO3.box_cell 0 rfl 6 rfl))
  all_goals
    try go_wp2
  all_goals
    exact bodyPost_ret (results_tmp4 (t := 2) (u := 3) (v := 4) (x := 5) rfl _ _ _) rfl ⟨_, _, rfl, HO3.tail⟩
/-- A case in plain words. -/
theorem case_plain (A0 : Option Addr) (c0 : Nat) (L : List (List Int)) (A1 : Option Addr) (c1 : Nat) (I : List Int) (o0 o1 o2 kq : Int) (A4 : Option Addr) (c4 : Nat) (M : List Bool) (w : World)
    (hr0 : Kd.C (Kd.slice 3 (Kd.int .i64)) w A0 L.length L) (hc0 : L.length ≤ c0) (hll : ∀ s ∈ L, s.length ≤ 9223372036854775807) (hr1 : Kd.C (Kd.int .i64) w A1 I.length I) (hc1 : I.length ≤ c1) (hc4 : M.length ≤ c4) (hk : 0 ≤ kq ∧ kq ≤ 255) :
    Calls Try.prog 12 #[.agg #[.slice A0 L.length c0, .slice A1 I.length c1, .int .i64 o0, .int .i64 o1, .int .i64 o2, .int .u8 kq, .slice A4 M.length c4]] w fun e w' => ∃ v1 v3, e = .returned (.tuple #[v1, .int .i64 (((kq.toNat % 3 : Nat) : Int)), v3, .slice A4 (M.take 30).length c4]) ∧ Own w w' [.row k24 24 w.heap.size v1 (madeAll L), .row k55 55 w.heap.size v3 (itemsM I)] := by
  obtain ⟨n, hn⟩ := Ev.rounds (items_ev I)
  refine (case_calls A0 c0 L A1 c1 I o0 o1 o2 kq A4 c4 M (itemsM I) w hr0 hc0 hll hr1 hc1 hc4 hk n hn).mono ?_
  rintro e w' ⟨v1, v3, rfl, HO⟩
  refine ⟨v1, v3, ?_, HO⟩
  rw [show kq % 3 = ((kq.toNat % 3 : Nat) : Int) by omega, show min M.length 30 = (M.take 30).length by rw [List.length_take]; omega]
end Go.Proofs.Ytlgkeaildncojaa.Q
end
section
-- Written by wip/tools/myprint.py, a program of this session that drives the kit's print.py; not a text of print.sh.
namespace Go.Proofs.Ytlgkeaildncojaa.Q
open Go.RowKit Go.Proofs.YtlgkeaildncojaaW.PrintWords Go.Proofs.YtlgkeaildncojaaW.PrintLast Go.Proofs.YtlgkeaildncojaaW.PrintMore
attribute [local go_sem] max2_int min2_int max_two min_two max_three min_three max_four min_four   -- for this text's walks alone
set_option linter.unusedVariables false
set_option linter.unusedSimpArgs false

/-! ### rules_Check: function 16 (by hand) -/

def rules_Check.f (l0_0 : List (S49)) (a1 : Int) (a2 : Int) (a3 : Int) : Option (Int) := some (checkP l0_0 a1 a2 a3)
theorem rules_Check.calls (A0_0 : Option Addr) (c0_0 : Nat) (l0_0 : List (S49)) (a1 : Int) (a2 : Int) (a3 : Int) (r : Int) (w : World) (hr0_0 : Kd.C k49 w A0_0 l0_0.length l0_0) (hc0_0 : l0_0.length ≤ c0_0) (h : rules_Check.f l0_0 a1 a2 a3 = some r) :
    Calls Try.prog 16 #[.agg #[.slice A0_0 l0_0.length c0_0], .int .i64 a1, .int .i64 a2, .int .i64 a3] w fun e w' => e = .returned (.int .i64 r) ∧ Below w.heap.size w w' := by
  obtain rfl := Option.some.inj h
  exact check_calls A0_0 c0_0 l0_0 a1 a2 a3 w hr0_0


end Go.Proofs.Ytlgkeaildncojaa.Q
end
section
/- sanity: the chapter's examples come out. Printed by genSa.py. -/
namespace Go.Proofs.Ytlgkeaildncojaa.Q
open Go.RowKit Go.Shelf Go.Proofs.YtlgkeaildncojaaW.PrintWords Go.Proofs.YtlgkeaildncojaaW.PrintLast Go.Proofs.YtlgkeaildncojaaW.PrintMore
set_option linter.unusedSimpArgs false
set_option linter.unusedVariables false
section
variable {P : Program} {ops : Array Oper} {Q : Exit → Act → World → Prop} {o : Oper} {rest : List Oper} {a : Act} {w W : World}
/-- A literal of elements that lead to memory as it is. -/
theorem ev_litC {α : Type} (d : Kd α) (e : Nat) {N n : Nat} {xs : List α} {inner : List Value} (hn : xs.length = n) (hgd : o.guard = none) (_hd : o.dst = some N)
    (hrun : (execOp a.eval o).run P W = .ok (.value (.slice (some ⟨W.heap.size, 0, none⟩) n n)) (W.alloc (.cells inner.toArray e)))
    (hrep : Reps (d.K W) d.sz xs inner) (hm : n ≤ 1000)
    (h : ∀ g W', Below W.heap.size W W' → d.C W' (some ⟨g, 0, none⟩) n xs → wpList P ops Q rest (a.put o.dst (.slice (some ⟨g, 0, none⟩) n n)) W') : wpList P ops Q (o :: rest) a W := by
  subst hn
  have hR := litOld d W e W.heap.size W xs inner (Nat.le_refl _) (by unfold maxLen; omega) hrep
  have hb := below_alloc (Below.refl W.heap.size W) (.cells inner.toArray e)
  exact Kd.event_run hgd hrun (h _ _ hb (Kd.C_old (Kd.R_reads' hR).2.2 hb))
/-- An element's cells of the only row are written. -/
theorem ev_store1 {α : Type} {d : Kd α} {e g n cap : Nat} {xs : List α} (HO : Own w W [.row d e w.heap.size (.slice (some ⟨g, 0, none⟩) n cap) xs]) (hN : o.dst = none) (hgd : o.guard = none) (t : TypeId) (p x : Operand) (ho : o.op = .store t p x)
    (i j : Nat) (x' : α) (u : Value) (seg c : List Value) (haddr : a.eval p = .pointer (some ⟨g, i * d.sz + j, none⟩)) (hx : a.eval x = u) (hu : u.cells.toList = seg) (ht : (P.info? t).map (·.size) = some seg.length) (h1 : ∀ q ∈ seg, q.oneCell' = true)
    (hin : i < n) (hcl : c.length = d.sz) (hcc : ∀ j u, c[j]? = some u → W.cell? ⟨g, i * d.sz + j, none⟩ = some u) (hj : j + seg.length ≤ d.sz) (hM : ∀ ok, d.M W w.heap.size ok x' (c.take j ++ seg ++ c.drop (j + seg.length)))
    (h : ∀ W', Own w W' [.row d e w.heap.size (.slice (some ⟨g, 0, none⟩) n cap) (xs.set i x')] → wpList P ops Q rest a W') : wpList P ops Q (o :: rest) a W := by
  have hb := HO.below
  obtain ⟨_, _, F, h2⟩ := HO
  have hR : d.R e W w.heap.size (fun k => w.heap.size ≤ k) (.slice (some ⟨g, 0, none⟩) n cap) xs := Kd.R_mono (h2 0 _ rfl) (fun k hk => hk.1)
  refine Kd.R_store d (w0 := w) w.heap.size hN hgd t p x ho e (i : Int) j xs x' u seg c (fun k => w.heap.size ≤ k) (fun _ => False) haddr (by rw [Int.toNat_natCast]) hx hu ht h1 hR (by omega) (by omega) hcl (by rw [Int.toNat_natCast]; exact hcc) hj (hM _) (fun _ hk => hk.elim) hb ?_
  intro w1 hR1 hb1 hg1
  rw [Int.toNat_natCast] at hR1
  refine h w1 ⟨hb1, fun _ _ hk => hk.elim, fun _ => 0, fun q r hq => ?_⟩
  match q, hq with
  | 0, hq => injection hq with hq; subst hq; exact Kd.R_mono hR1 (fun k hk => ⟨hk, rfl⟩)
  | (m + 1), hq => simp at hq
end
theorem ci (w : World) (x : Int) : (Kd.int .i64).K w x [.int .i64 x] := rfl
theorem cl {α : Type} {d : Kd α} {e : Nat} {w : World} {A : Option Addr} {n c : Nat} {xs : List α} (hn : xs.length = n) (hc : n ≤ c) (h : d.C w A n xs) : (Kd.slice e d).K w xs [.slice A n c] := by
  subst hn
  exact ⟨A, c, rfl, hc, h⟩
def sanR0 : S49 := ⟨[[9]], [[1], [2]], [], [], [⟨1, 1⟩]⟩
def sanR1 : S49 := ⟨[], [[1]], [], [7], []⟩
def sanR2 : S49 := ⟨[], [[2], [3]], [], [8], []⟩
def sanAll : List S24 := [⟨[sanR0, sanR1]⟩, ⟨[sanR2]⟩]
def abugidalaw16_sanity.f (k : Nat) : Option Bool := some true
theorem abugidalaw16_sanity.mono : ∀ k, LeO (abugidalaw16_sanity.f k) (abugidalaw16_sanity.f (k + 1)) := fun k => LeO.refl _

set_option maxRecDepth 100000 in
set_option maxHeartbeats 4000000 in
theorem abugidalaw16_sanity.calls (k : Nat) (r : Bool) (w : World) (h : abugidalaw16_sanity.f k = some r) :
    Calls Try.prog 11 #[] w fun e w' => e = .returned (.bool r) ∧ Below w.heap.size w w' := by
  obtain rfl := Option.some.inj h
  have HB := Aside0.mk (Below.refl w.heap.size w)
  go_enter Try.func11, Try.ntmps11
  go_upto_region 3 with (first
    | ((with_reducible refine gate_dst (N := 8) rfl ?_); (try (refine gate_guard (by rfl) ?_; dsimp only)); (refine ev_litC (Kd.int .i64) 3 (N := 8) (xs := ([9] : List Int)) (inner := [.int .i64 9]) rfl ?hg ?hd ?hr ?hp (by decide) ?_; (case hd => rfl); (case hg => rfl); (case hr => first | (go_simp; done) | (go_simp; rfl)); (case hp => exact Reps.one (ci _ 9) (Reps.none _ _)); intro g8 W8 hb; intro hC; have H8 := Aside0.mk hC; clear hC; have nB := Aside0.mk (below_step HB.out hb); clear HB; have HB := nB; clear nB; clear hb))
    | ((with_reducible refine gate_dst (N := 9) rfl ?_); (try (refine gate_guard (by rfl) ?_; dsimp only)); (refine ev_litC (Kd.slice 3 (Kd.int .i64)) 26 (N := 9) (xs := ([[9]] : List (List Int))) (inner := [.slice (some ⟨g8, 0, none⟩) 1 1]) rfl ?hg ?hd ?hr ?hp (by decide) ?_; (case hd => rfl); (case hg => rfl); (case hr => first | (go_simp; done) | (go_simp; rfl)); (case hp => exact Reps.one (cl rfl (Nat.le_refl _) H8.out) (Reps.none _ _)); intro g9 W9 hb; intro hC; have H9 := Aside0.mk hC; clear hC; clear H8; have nB := Aside0.mk (below_step HB.out hb); clear HB; have HB := nB; clear nB; clear hb))
    | ((with_reducible refine gate_dst (N := 10) rfl ?_); (try (refine gate_guard (by rfl) ?_; dsimp only)); (refine ev_litC (Kd.int .i64) 3 (N := 10) (xs := ([1] : List Int)) (inner := [.int .i64 1]) rfl ?hg ?hd ?hr ?hp (by decide) ?_; (case hd => rfl); (case hg => rfl); (case hr => first | (go_simp; done) | (go_simp; rfl)); (case hp => exact Reps.one (ci _ 1) (Reps.none _ _)); intro g10 W10 hb; intro hC; have H10 := Aside0.mk hC; clear hC; have nH9 := Aside0.mk (Kd.C_below H9.out hb); clear H9; have H9 := nH9; clear nH9; have nB := Aside0.mk (below_step HB.out hb); clear HB; have HB := nB; clear nB; clear hb))
    | ((with_reducible refine gate_dst (N := 11) rfl ?_); (try (refine gate_guard (by rfl) ?_; dsimp only)); (refine ev_litC (Kd.int .i64) 3 (N := 11) (xs := ([2] : List Int)) (inner := [.int .i64 2]) rfl ?hg ?hd ?hr ?hp (by decide) ?_; (case hd => rfl); (case hg => rfl); (case hr => first | (go_simp; done) | (go_simp; rfl)); (case hp => exact Reps.one (ci _ 2) (Reps.none _ _)); intro g11 W11 hb; intro hC; have H11 := Aside0.mk hC; clear hC; have nH9 := Aside0.mk (Kd.C_below H9.out hb); clear H9; have H9 := nH9; clear nH9; have nH10 := Aside0.mk (Kd.C_below H10.out hb); clear H10; have H10 := nH10; clear nH10; have nB := Aside0.mk (below_step HB.out hb); clear HB; have HB := nB; clear nB; clear hb))
    | ((with_reducible refine gate_dst (N := 12) rfl ?_); (try (refine gate_guard (by rfl) ?_; dsimp only)); (refine ev_litC (Kd.slice 3 (Kd.int .i64)) 26 (N := 12) (xs := ([[1], [2]] : List (List Int))) (inner := [.slice (some ⟨g10, 0, none⟩) 1 1, .slice (some ⟨g11, 0, none⟩) 1 1]) rfl ?hg ?hd ?hr ?hp (by decide) ?_; (case hd => rfl); (case hg => rfl); (case hr => first | (go_simp; done) | (go_simp; rfl)); (case hp => exact Reps.one (cl rfl (Nat.le_refl _) H10.out) (Reps.one (cl rfl (Nat.le_refl _) H11.out) (Reps.none _ _))); intro g12 W12 hb; intro hC; have H12 := Aside0.mk hC; clear hC; have nH9 := Aside0.mk (Kd.C_below H9.out hb); clear H9; have H9 := nH9; clear nH9; clear H10; clear H11; have nB := Aside0.mk (below_step HB.out hb); clear HB; have HB := nB; clear nB; clear hb))
    | ((with_reducible refine gate_dst (N := 14) rfl ?_); (try (refine gate_guard (by rfl) ?_; dsimp only)); (refine ev_litC (k60) 60 (N := 14) (xs := ([⟨1, 1⟩] : List S60)) (inner := [.int .i64 1, .int .i64 1]) rfl ?hg ?hd ?hr ?hp (by decide) ?_; (case hd => rfl); (case hg => rfl); (case hr => first | (go_simp; done) | (go_simp; rfl)); (case hp => exact (Reps.none _ 2).snoc (show k60.K _ (⟨1, 1⟩ : S60) [.int .i64 1, .int .i64 1] from k60_mk _ (⟨1, 1⟩ : S60)) rfl); intro g14 W14 hb; intro hC; have H14 := Aside0.mk hC; clear hC; have nH9 := Aside0.mk (Kd.C_below H9.out hb); clear H9; have H9 := nH9; clear nH9; have nH12 := Aside0.mk (Kd.C_below H12.out hb); clear H12; have H12 := nH12; clear nH12; have nB := Aside0.mk (below_step HB.out hb); clear HB; have HB := nB; clear nB; clear hb))
    | ((with_reducible refine gate_dst (N := 16) rfl ?_); (try (refine gate_guard (by rfl) ?_; dsimp only)); (refine ev_litC (Kd.int .i64) 3 (N := 16) (xs := ([1] : List Int)) (inner := [.int .i64 1]) rfl ?hg ?hd ?hr ?hp (by decide) ?_; (case hd => rfl); (case hg => rfl); (case hr => first | (go_simp; done) | (go_simp; rfl)); (case hp => exact Reps.one (ci _ 1) (Reps.none _ _)); intro g16 W16 hb; intro hC; have H16 := Aside0.mk hC; clear hC; have nH9 := Aside0.mk (Kd.C_below H9.out hb); clear H9; have H9 := nH9; clear nH9; have nH12 := Aside0.mk (Kd.C_below H12.out hb); clear H12; have H12 := nH12; clear nH12; have nH14 := Aside0.mk (Kd.C_below H14.out hb); clear H14; have H14 := nH14; clear nH14; have nB := Aside0.mk (below_step HB.out hb); clear HB; have HB := nB; clear nB; clear hb))
    | ((with_reducible refine gate_dst (N := 17) rfl ?_); (try (refine gate_guard (by rfl) ?_; dsimp only)); (refine ev_litC (Kd.slice 3 (Kd.int .i64)) 26 (N := 17) (xs := ([[1]] : List (List Int))) (inner := [.slice (some ⟨g16, 0, none⟩) 1 1]) rfl ?hg ?hd ?hr ?hp (by decide) ?_; (case hd => rfl); (case hg => rfl); (case hr => first | (go_simp; done) | (go_simp; rfl)); (case hp => exact Reps.one (cl rfl (Nat.le_refl _) H16.out) (Reps.none _ _)); intro g17 W17 hb; intro hC; have H17 := Aside0.mk hC; clear hC; have nH9 := Aside0.mk (Kd.C_below H9.out hb); clear H9; have H9 := nH9; clear nH9; have nH12 := Aside0.mk (Kd.C_below H12.out hb); clear H12; have H12 := nH12; clear nH12; have nH14 := Aside0.mk (Kd.C_below H14.out hb); clear H14; have H14 := nH14; clear nH14; clear H16; have nB := Aside0.mk (below_step HB.out hb); clear HB; have HB := nB; clear nB; clear hb))
    | ((with_reducible refine gate_dst (N := 18) rfl ?_); (try (refine gate_guard (by rfl) ?_; dsimp only)); (refine ev_litC (Kd.int .i64) 3 (N := 18) (xs := ([7] : List Int)) (inner := [.int .i64 7]) rfl ?hg ?hd ?hr ?hp (by decide) ?_; (case hd => rfl); (case hg => rfl); (case hr => first | (go_simp; done) | (go_simp; rfl)); (case hp => exact Reps.one (ci _ 7) (Reps.none _ _)); intro g18 W18 hb; intro hC; have H18 := Aside0.mk hC; clear hC; have nH9 := Aside0.mk (Kd.C_below H9.out hb); clear H9; have H9 := nH9; clear nH9; have nH12 := Aside0.mk (Kd.C_below H12.out hb); clear H12; have H12 := nH12; clear nH12; have nH14 := Aside0.mk (Kd.C_below H14.out hb); clear H14; have H14 := nH14; clear nH14; have nH17 := Aside0.mk (Kd.C_below H17.out hb); clear H17; have H17 := nH17; clear nH17; have nB := Aside0.mk (below_step HB.out hb); clear HB; have HB := nB; clear nB; clear hb))
    | ((with_reducible refine gate_dst (N := 20) rfl ?_); (try (refine gate_guard (by rfl) ?_; dsimp only)); (refine ev_litC (k49) 49 (N := 20) (xs := ([sanR0, sanR1] : List S49)) (inner := [.slice (some ⟨g9, 0, none⟩) 1 1, .slice (some ⟨g12, 0, none⟩) 2 2, .slice none 0 0, .slice none 0 0, .slice (some ⟨g14, 0, none⟩) 1 1, .slice none 0 0, .slice (some ⟨g17, 0, none⟩) 1 1, .slice none 0 0, .slice (some ⟨g18, 0, none⟩) 1 1, .slice none 0 0]) rfl ?hg ?hd ?hr ?hp (by decide) ?_; (case hd => rfl); (case hg => rfl); (case hr => first | (go_simp; done) | (go_simp; rfl)); (case hp => exact (((Reps.none _ 5).snoc (show k49.K _ sanR0 [.slice (some ⟨g9, 0, none⟩) 1 1, .slice (some ⟨g12, 0, none⟩) 2 2, .slice none 0 0, .slice none 0 0, .slice (some ⟨g14, 0, none⟩) 1 1] from k49_mk _ sanR0 (Nat.le_refl 1) H9.out (Nat.le_refl 2) H12.out (Nat.le_refl 0) (Kd.C_nil _ _) (Nat.le_refl 0) (Kd.C_nil _ _) (Nat.le_refl 1) H14.out) rfl).snoc (show k49.K _ sanR1 [.slice none 0 0, .slice (some ⟨g17, 0, none⟩) 1 1, .slice none 0 0, .slice (some ⟨g18, 0, none⟩) 1 1, .slice none 0 0] from k49_mk _ sanR1 (Nat.le_refl 0) (Kd.C_nil _ _) (Nat.le_refl 1) H17.out (Nat.le_refl 0) (Kd.C_nil _ _) (Nat.le_refl 1) H18.out (Nat.le_refl 0) (Kd.C_nil _ _)) rfl)); intro g20 W20 hb; intro hC; have H20 := Aside0.mk hC; clear hC; clear H9; clear H12; clear H14; clear H17; clear H18; have nB := Aside0.mk (below_step HB.out hb); clear HB; have HB := nB; clear nB; clear hb))
    | ((with_reducible refine gate_dst (N := 22) rfl ?_); (try (refine gate_guard (by rfl) ?_; dsimp only)); (refine ev_litC (Kd.int .i64) 3 (N := 22) (xs := ([2] : List Int)) (inner := [.int .i64 2]) rfl ?hg ?hd ?hr ?hp (by decide) ?_; (case hd => rfl); (case hg => rfl); (case hr => first | (go_simp; done) | (go_simp; rfl)); (case hp => exact Reps.one (ci _ 2) (Reps.none _ _)); intro g22 W22 hb; intro hC; have H22 := Aside0.mk hC; clear hC; have nH20 := Aside0.mk (Kd.C_below H20.out hb); clear H20; have H20 := nH20; clear nH20; have nB := Aside0.mk (below_step HB.out hb); clear HB; have HB := nB; clear nB; clear hb))
    | ((with_reducible refine gate_dst (N := 23) rfl ?_); (try (refine gate_guard (by rfl) ?_; dsimp only)); (refine ev_litC (Kd.int .i64) 3 (N := 23) (xs := ([3] : List Int)) (inner := [.int .i64 3]) rfl ?hg ?hd ?hr ?hp (by decide) ?_; (case hd => rfl); (case hg => rfl); (case hr => first | (go_simp; done) | (go_simp; rfl)); (case hp => exact Reps.one (ci _ 3) (Reps.none _ _)); intro g23 W23 hb; intro hC; have H23 := Aside0.mk hC; clear hC; have nH20 := Aside0.mk (Kd.C_below H20.out hb); clear H20; have H20 := nH20; clear nH20; have nH22 := Aside0.mk (Kd.C_below H22.out hb); clear H22; have H22 := nH22; clear nH22; have nB := Aside0.mk (below_step HB.out hb); clear HB; have HB := nB; clear nB; clear hb))
    | ((with_reducible refine gate_dst (N := 24) rfl ?_); (try (refine gate_guard (by rfl) ?_; dsimp only)); (refine ev_litC (Kd.slice 3 (Kd.int .i64)) 26 (N := 24) (xs := ([[2], [3]] : List (List Int))) (inner := [.slice (some ⟨g22, 0, none⟩) 1 1, .slice (some ⟨g23, 0, none⟩) 1 1]) rfl ?hg ?hd ?hr ?hp (by decide) ?_; (case hd => rfl); (case hg => rfl); (case hr => first | (go_simp; done) | (go_simp; rfl)); (case hp => exact Reps.one (cl rfl (Nat.le_refl _) H22.out) (Reps.one (cl rfl (Nat.le_refl _) H23.out) (Reps.none _ _))); intro g24 W24 hb; intro hC; have H24 := Aside0.mk hC; clear hC; have nH20 := Aside0.mk (Kd.C_below H20.out hb); clear H20; have H20 := nH20; clear nH20; clear H22; clear H23; have nB := Aside0.mk (below_step HB.out hb); clear HB; have HB := nB; clear nB; clear hb))
    | ((with_reducible refine gate_dst (N := 25) rfl ?_); (try (refine gate_guard (by rfl) ?_; dsimp only)); (refine ev_litC (Kd.int .i64) 3 (N := 25) (xs := ([8] : List Int)) (inner := [.int .i64 8]) rfl ?hg ?hd ?hr ?hp (by decide) ?_; (case hd => rfl); (case hg => rfl); (case hr => first | (go_simp; done) | (go_simp; rfl)); (case hp => exact Reps.one (ci _ 8) (Reps.none _ _)); intro g25 W25 hb; intro hC; have H25 := Aside0.mk hC; clear hC; have nH20 := Aside0.mk (Kd.C_below H20.out hb); clear H20; have H20 := nH20; clear nH20; have nH24 := Aside0.mk (Kd.C_below H24.out hb); clear H24; have H24 := nH24; clear nH24; have nB := Aside0.mk (below_step HB.out hb); clear HB; have HB := nB; clear nB; clear hb))
    | ((with_reducible refine gate_dst (N := 27) rfl ?_); (try (refine gate_guard (by rfl) ?_; dsimp only)); (refine ev_litC (k49) 49 (N := 27) (xs := ([sanR2] : List S49)) (inner := [.slice none 0 0, .slice (some ⟨g24, 0, none⟩) 2 2, .slice none 0 0, .slice (some ⟨g25, 0, none⟩) 1 1, .slice none 0 0]) rfl ?hg ?hd ?hr ?hp (by decide) ?_; (case hd => rfl); (case hg => rfl); (case hr => first | (go_simp; done) | (go_simp; rfl)); (case hp => exact ((Reps.none _ 5).snoc (show k49.K _ sanR2 [.slice none 0 0, .slice (some ⟨g24, 0, none⟩) 2 2, .slice none 0 0, .slice (some ⟨g25, 0, none⟩) 1 1, .slice none 0 0] from k49_mk _ sanR2 (Nat.le_refl 0) (Kd.C_nil _ _) (Nat.le_refl 2) H24.out (Nat.le_refl 0) (Kd.C_nil _ _) (Nat.le_refl 1) H25.out (Nat.le_refl 0) (Kd.C_nil _ _)) rfl)); intro g27 W27 hb; intro hC; have H27 := Aside0.mk hC; clear hC; have nH20 := Aside0.mk (Kd.C_below H20.out hb); clear H20; have H20 := nH20; clear nH20; clear H24; clear H25; have nB := Aside0.mk (below_step HB.out hb); clear HB; have HB := nB; clear nB; clear hb))
    | ((with_reducible refine gate_dst (N := 29) rfl ?_); (try (refine gate_guard (by rfl) ?_; dsimp only)); (refine ev_litC (k24) 24 (N := 29) (xs := sanAll) (inner := [.slice (some ⟨g20, 0, none⟩) 2 2, .slice (some ⟨g27, 0, none⟩) 1 1]) rfl ?hg ?hd ?hr ?hp (by decide) ?_; (case hd => rfl); (case hg => rfl); (case hr => first | (go_simp; done) | (go_simp; rfl)); (case hp => exact Reps.one (show k24.K _ (⟨[sanR0, sanR1]⟩ : S24) [.slice (some ⟨g20, 0, none⟩) 2 2] from k24_mk _ (⟨[sanR0, sanR1]⟩ : S24) (Nat.le_refl 2) H20.out) (Reps.one (show k24.K _ (⟨[sanR2]⟩ : S24) [.slice (some ⟨g27, 0, none⟩) 1 1] from k24_mk _ (⟨[sanR2]⟩ : S24) (Nat.le_refl 1) H27.out) (Reps.none _ _))); intro g29 W29 hb; intro hC; have H29 := Aside0.mk hC; clear hC; have nH20 := Aside0.mk (Kd.C_below H20.out hb); clear H20; have H20 := nH20; clear nH20; clear H27; have nB := Aside0.mk (below_step HB.out hb); clear HB; have HB := nB; clear nB; clear hb))
    | ((with_reducible refine gate_dst (N := 30) rfl ?_); (try (refine gate_guard (by rfl) ?_; dsimp only)); (refine ev_litC (Kd.bool) 4 (N := 30) (xs := ([true] : List Bool)) (inner := [.bool true]) rfl ?hg ?hd ?hr ?hp (by decide) ?_; (case hd => rfl); (case hg => rfl); (case hr => first | (go_simp; done) | (go_simp; rfl)); (case hp => exact Reps.one (show Kd.bool.K _ true [.bool true] from rfl) (Reps.none _ _)); intro g30 W30 hb; intro hC; have H30 := Aside0.mk hC; clear hC; have nH20 := Aside0.mk (Kd.C_below H20.out hb); clear H20; have H20 := nH20; clear nH20; have nH29 := Aside0.mk (Kd.C_below H29.out hb); clear H29; have H29 := nH29; clear nH29; have nB := Aside0.mk (below_step HB.out hb); clear HB; have HB := nB; clear nB; clear hb)))
  have HO := Aside0.mk (Own.start W30)
  go_upto_region 4 with (first
    | ((with_reducible refine gate_dst (N := 32) rfl ?_); (try (refine gate_guard (by rfl) ?_; dsimp only)); (refine ev_litC (Kd.int .i64) 3 (N := 32) (xs := ([9, 1, 2, 3, 1] : List Int)) (inner := [.int .i64 9, .int .i64 1, .int .i64 2, .int .i64 3, .int .i64 1]) rfl ?hg ?hd ?hr ?hp (by decide) ?_; (case hd => rfl); (case hg => rfl); (case hr => first | (go_simp; done) | (go_simp; rfl)); (case hp => exact Reps.one (ci _ 9) (Reps.one (ci _ 1) (Reps.one (ci _ 2) (Reps.one (ci _ 3) (Reps.one (ci _ 1) (Reps.none _ _)))))); intro g32 W32 hb hC; have H32 := Aside0.mk hC; have nO := Aside0.mk (HO.out.grow hb); clear HO; have HO := nO; clear nO; clear hC hb))
    | (go_at_call_has 30 (Value.slice (some ⟨g32, 0, none⟩) 5 5); (refine (abugidalaw16_glyphs.calls 50 (some ⟨g32, 0, none⟩) 5 ([9, 1, 2, 3, 1] : List Int) ([⟨9, 0⟩, ⟨1, 0⟩, ⟨2, 0⟩, ⟨3, 0⟩, ⟨1, 0⟩] : List S55) _ H32.out (Nat.le_refl 5) (by kernel_rfl)).mono ?_; rintro e_ W_ ⟨v_, rfl, hR, hb⟩; have hO := HO.out.called hb hR; clear HO H32 hR hb; obtain ⟨A33, c33, rfl, -, -⟩ := hO.row_at 0 rfl; have HO := Aside0.mk hO; clear hO))
    | ((with_reducible refine gate_dst (N := 35) rfl ?_); (try (refine gate_guard (by rfl) ?_; dsimp only)); (refine ev_litC (Kd.int .i64) 3 (N := 35) (xs := ([9, 1, 8, 7] : List Int)) (inner := [.int .i64 9, .int .i64 1, .int .i64 8, .int .i64 7]) rfl ?hg ?hd ?hr ?hp (by decide) ?_; (case hd => rfl); (case hg => rfl); (case hr => first | (go_simp; done) | (go_simp; rfl)); (case hp => exact Reps.one (ci _ 9) (Reps.one (ci _ 1) (Reps.one (ci _ 8) (Reps.one (ci _ 7) (Reps.none _ _))))); intro g35 W35 hb hC; have H35 := Aside0.mk hC; have nO := Aside0.mk (HO.out.grow hb); clear HO; have HO := nO; clear nO; clear hC hb))
    | (go_at_call_has 30 (Value.slice (some ⟨g35, 0, none⟩) 4 4); (refine (abugidalaw16_glyphs.calls 50 (some ⟨g35, 0, none⟩) 4 ([9, 1, 8, 7] : List Int) ([⟨9, 0⟩, ⟨1, 0⟩, ⟨8, 0⟩, ⟨7, 0⟩] : List S55) _ H35.out (Nat.le_refl 4) (by kernel_rfl)).mono ?_; rintro e_ W_ ⟨v_, rfl, hR, hb⟩; have hO := HO.out.called hb hR; clear HO H35 hR hb; obtain ⟨A36, c36, rfl, -, -⟩ := hO.row_at 1 rfl; have HO := Aside0.mk hO; clear hO))
    | (go_at_call 28; (refine (abugidalaw16_gives.calls 100 (some ⟨g29, 0, none⟩) 2 sanAll 0 A33 c33 ([⟨9, 0⟩, ⟨1, 0⟩, ⟨2, 0⟩, ⟨3, 0⟩, ⟨1, 0⟩] : List S55) (some ⟨g30, 0, none⟩) 1 [true] 6 A36 c36 ([⟨9, 0⟩, ⟨1, 0⟩, ⟨8, 0⟩, ⟨7, 0⟩] : List S55) true _ (HO.out.old H29.out) (Nat.le_refl 2) (HO.out.row_sl 0 rfl).2.2 (HO.out.row_sl 0 rfl).2.1 (HO.out.old H30.out) (Nat.le_refl 1) (HO.out.row_sl 1 rfl).2.2 (HO.out.row_sl 1 rfl).2.1 (by decide +kernel)).mono ?_; rintro e_ W_ ⟨rfl, hb⟩; have nO := Aside0.mk (HO.out.grow hb); clear HO hb; have HO := nO; clear nO; have nO := Aside0.mk (HO.out.upto 0); clear HO; have HO := nO; clear nO; have D1 := trivial))
    | ((with_reducible refine gate_dst (N := 40) rfl ?_); (try (refine gate_guard (by rfl) ?_; dsimp only)); (refine ev_litC (Kd.int .i64) 3 (N := 40) (xs := ([1, 2, 3] : List Int)) (inner := [.int .i64 1, .int .i64 2, .int .i64 3]) rfl ?hg ?hd ?hr ?hp (by decide) ?_; (case hd => rfl); (case hg => rfl); (case hr => first | (go_simp; done) | (go_simp; rfl)); (case hp => exact Reps.one (ci _ 1) (Reps.one (ci _ 2) (Reps.one (ci _ 3) (Reps.none _ _)))); intro g40 W40 hb hC; have H40 := Aside0.mk hC; have nO := Aside0.mk (HO.out.grow hb); clear HO; have HO := nO; clear nO; clear hC hb))
    | (go_at_call_has 30 (Value.slice (some ⟨g40, 0, none⟩) 3 3); (refine (abugidalaw16_glyphs.calls 50 (some ⟨g40, 0, none⟩) 3 ([1, 2, 3] : List Int) ([⟨1, 0⟩, ⟨2, 0⟩, ⟨3, 0⟩] : List S55) _ H40.out (Nat.le_refl 3) (by kernel_rfl)).mono ?_; rintro e_ W_ ⟨v_, rfl, hR, hb⟩; have hO := HO.out.called hb hR; clear HO H40 hR hb; obtain ⟨A41, c41, rfl, -, -⟩ := hO.row_at 0 rfl; have HO := Aside0.mk hO; clear hO))
    | ((with_reducible refine gate_dst (N := 43) rfl ?_); (try (refine gate_guard (by rfl) ?_; dsimp only)); (refine ev_litC (Kd.int .i64) 3 (N := 43) (xs := ([7, 2, 3] : List Int)) (inner := [.int .i64 7, .int .i64 2, .int .i64 3]) rfl ?hg ?hd ?hr ?hp (by decide) ?_; (case hd => rfl); (case hg => rfl); (case hr => first | (go_simp; done) | (go_simp; rfl)); (case hp => exact Reps.one (ci _ 7) (Reps.one (ci _ 2) (Reps.one (ci _ 3) (Reps.none _ _)))); intro g43 W43 hb hC; have H43 := Aside0.mk hC; have nO := Aside0.mk (HO.out.grow hb); clear HO; have HO := nO; clear nO; clear hC hb))
    | (go_at_call_has 30 (Value.slice (some ⟨g43, 0, none⟩) 3 3); (refine (abugidalaw16_glyphs.calls 50 (some ⟨g43, 0, none⟩) 3 ([7, 2, 3] : List Int) ([⟨7, 0⟩, ⟨2, 0⟩, ⟨3, 0⟩] : List S55) _ H43.out (Nat.le_refl 3) (by kernel_rfl)).mono ?_; rintro e_ W_ ⟨v_, rfl, hR, hb⟩; have hO := HO.out.called hb hR; clear HO H43 hR hb; obtain ⟨A44, c44, rfl, -, -⟩ := hO.row_at 1 rfl; have HO := Aside0.mk hO; clear hO))
    | (go_at_call 28; (refine (abugidalaw16_gives.calls 100 (some ⟨g29, 0, none⟩) 2 sanAll 0 A41 c41 ([⟨1, 0⟩, ⟨2, 0⟩, ⟨3, 0⟩] : List S55) (some ⟨g30, 0, none⟩) 1 [true] 6 A44 c44 ([⟨7, 0⟩, ⟨2, 0⟩, ⟨3, 0⟩] : List S55) true _ (HO.out.old H29.out) (Nat.le_refl 2) (HO.out.row_sl 0 rfl).2.2 (HO.out.row_sl 0 rfl).2.1 (HO.out.old H30.out) (Nat.le_refl 1) (HO.out.row_sl 1 rfl).2.2 (HO.out.row_sl 1 rfl).2.1 (by decide +kernel)).mono ?_; rintro e_ W_ ⟨rfl, hb⟩; have nO := Aside0.mk (HO.out.grow hb); clear HO hb; have HO := nO; clear nO; clear D1; have nO := Aside0.mk (HO.out.upto 0); clear HO; have HO := nO; clear nO; have D2 := trivial))
    | ((with_reducible refine gate_dst (N := 49) rfl ?_); (try (refine gate_guard (by rfl) ?_; dsimp only)); (refine ev_litC (Kd.int .i64) 3 (N := 49) (xs := ([9, 1, 2, 1] : List Int)) (inner := [.int .i64 9, .int .i64 1, .int .i64 2, .int .i64 1]) rfl ?hg ?hd ?hr ?hp (by decide) ?_; (case hd => rfl); (case hg => rfl); (case hr => first | (go_simp; done) | (go_simp; rfl)); (case hp => exact Reps.one (ci _ 9) (Reps.one (ci _ 1) (Reps.one (ci _ 2) (Reps.one (ci _ 1) (Reps.none _ _))))); intro g49 W49 hb hC; have H49 := Aside0.mk hC; have nO := Aside0.mk (HO.out.grow hb); clear HO; have HO := nO; clear nO; clear hC hb))
    | (go_at_call_has 30 (Value.slice (some ⟨g49, 0, none⟩) 4 4); (refine (abugidalaw16_glyphs.calls 50 (some ⟨g49, 0, none⟩) 4 ([9, 1, 2, 1] : List Int) ([⟨9, 0⟩, ⟨1, 0⟩, ⟨2, 0⟩, ⟨1, 0⟩] : List S55) _ H49.out (Nat.le_refl 4) (by kernel_rfl)).mono ?_; rintro e_ W_ ⟨v_, rfl, hR, hb⟩; have hO := HO.out.called hb hR; clear HO H49 hR hb; obtain ⟨A50, c50, rfl, -, -⟩ := hO.row_at 0 rfl; have HO := Aside0.mk hO; clear hO))
    | ((with_reducible refine gate_dst (N := 52) rfl ?_); (try (refine gate_guard (by rfl) ?_; dsimp only)); (refine ev_litC (Kd.int .i64) 3 (N := 52) (xs := ([9, 1, 2, 7] : List Int)) (inner := [.int .i64 9, .int .i64 1, .int .i64 2, .int .i64 7]) rfl ?hg ?hd ?hr ?hp (by decide) ?_; (case hd => rfl); (case hg => rfl); (case hr => first | (go_simp; done) | (go_simp; rfl)); (case hp => exact Reps.one (ci _ 9) (Reps.one (ci _ 1) (Reps.one (ci _ 2) (Reps.one (ci _ 7) (Reps.none _ _))))); intro g52 W52 hb hC; have H52 := Aside0.mk hC; have nO := Aside0.mk (HO.out.grow hb); clear HO; have HO := nO; clear nO; clear hC hb))
    | (go_at_call_has 30 (Value.slice (some ⟨g52, 0, none⟩) 4 4); (refine (abugidalaw16_glyphs.calls 50 (some ⟨g52, 0, none⟩) 4 ([9, 1, 2, 7] : List Int) ([⟨9, 0⟩, ⟨1, 0⟩, ⟨2, 0⟩, ⟨7, 0⟩] : List S55) _ H52.out (Nat.le_refl 4) (by kernel_rfl)).mono ?_; rintro e_ W_ ⟨v_, rfl, hR, hb⟩; have hO := HO.out.called hb hR; clear HO H52 hR hb; obtain ⟨A53, c53, rfl, -, -⟩ := hO.row_at 1 rfl; have HO := Aside0.mk hO; clear hO))
    | (go_at_call 28; (refine (abugidalaw16_gives.calls 100 (some ⟨g29, 0, none⟩) 2 sanAll 0 A50 c50 ([⟨9, 0⟩, ⟨1, 0⟩, ⟨2, 0⟩, ⟨1, 0⟩] : List S55) (some ⟨g30, 0, none⟩) 1 [true] 6 A53 c53 ([⟨9, 0⟩, ⟨1, 0⟩, ⟨2, 0⟩, ⟨7, 0⟩] : List S55) true _ (HO.out.old H29.out) (Nat.le_refl 2) (HO.out.row_sl 0 rfl).2.2 (HO.out.row_sl 0 rfl).2.1 (HO.out.old H30.out) (Nat.le_refl 1) (HO.out.row_sl 1 rfl).2.2 (HO.out.row_sl 1 rfl).2.1 (by decide +kernel)).mono ?_; rintro e_ W_ ⟨rfl, hb⟩; have nO := Aside0.mk (HO.out.grow hb); clear HO hb; have HO := nO; clear nO; clear D2; have nO := Aside0.mk (HO.out.upto 0); clear HO; have HO := nO; clear nO; have D3 := trivial)))
  go_upto_region 6 with (first
    | ((with_reducible refine gate_dst (N := 57) rfl ?_); (try (refine gate_guard (by rfl) ?_; dsimp only)); (refine ev_litC (Kd.int .i64) 3 (N := 57) (xs := ([2, 3, 2, 3] : List Int)) (inner := [.int .i64 2, .int .i64 3, .int .i64 2, .int .i64 3]) rfl ?hg ?hd ?hr ?hp (by decide) ?_; (case hd => rfl); (case hg => rfl); (case hr => first | (go_simp; done) | (go_simp; rfl)); (case hp => exact Reps.one (ci _ 2) (Reps.one (ci _ 3) (Reps.one (ci _ 2) (Reps.one (ci _ 3) (Reps.none _ _))))); intro g57 W57 hb hC; have H57 := Aside0.mk hC; have nO := Aside0.mk (HO.out.grow hb); clear HO; have HO := nO; clear nO; clear hC hb))
    | (go_at_call_has 30 (Value.slice (some ⟨g57, 0, none⟩) 4 4); (refine (abugidalaw16_glyphs.calls 50 (some ⟨g57, 0, none⟩) 4 ([2, 3, 2, 3] : List Int) ([⟨2, 0⟩, ⟨3, 0⟩, ⟨2, 0⟩, ⟨3, 0⟩] : List S55) _ H57.out (Nat.le_refl 4) (by kernel_rfl)).mono ?_; rintro e_ W_ ⟨v_, rfl, hR, hb⟩; have hO := HO.out.called hb hR; clear HO H57 hR hb; obtain ⟨A58, c58, rfl, -, -⟩ := hO.row_at 0 rfl; have HO := Aside0.mk hO; clear hO))
    | ((with_reducible refine gate_dst (N := 60) rfl ?_); (try (refine gate_guard (by rfl) ?_; dsimp only)); (refine ev_litC (Kd.int .i64) 3 (N := 60) (xs := ([8, 8] : List Int)) (inner := [.int .i64 8, .int .i64 8]) rfl ?hg ?hd ?hr ?hp (by decide) ?_; (case hd => rfl); (case hg => rfl); (case hr => first | (go_simp; done) | (go_simp; rfl)); (case hp => exact Reps.one (ci _ 8) (Reps.one (ci _ 8) (Reps.none _ _))); intro g60 W60 hb hC; have H60 := Aside0.mk hC; have nO := Aside0.mk (HO.out.grow hb); clear HO; have HO := nO; clear nO; clear hC hb))
    | (go_at_call_has 30 (Value.slice (some ⟨g60, 0, none⟩) 2 2); (refine (abugidalaw16_glyphs.calls 50 (some ⟨g60, 0, none⟩) 2 ([8, 8] : List Int) ([⟨8, 0⟩, ⟨8, 0⟩] : List S55) _ H60.out (Nat.le_refl 2) (by kernel_rfl)).mono ?_; rintro e_ W_ ⟨v_, rfl, hR, hb⟩; have hO := HO.out.called hb hR; clear HO H60 hR hb; obtain ⟨A61, c61, rfl, -, -⟩ := hO.row_at 1 rfl; have HO := Aside0.mk hO; clear hO))
    | (go_at_call 28; (refine (abugidalaw16_gives.calls 100 (some ⟨g29, 0, none⟩) 2 sanAll 1 A58 c58 ([⟨2, 0⟩, ⟨3, 0⟩, ⟨2, 0⟩, ⟨3, 0⟩] : List S55) (some ⟨g30, 0, none⟩) 1 [true] 2 A61 c61 ([⟨8, 0⟩, ⟨8, 0⟩] : List S55) true _ (HO.out.old H29.out) (Nat.le_refl 2) (HO.out.row_sl 0 rfl).2.2 (HO.out.row_sl 0 rfl).2.1 (HO.out.old H30.out) (Nat.le_refl 1) (HO.out.row_sl 1 rfl).2.2 (HO.out.row_sl 1 rfl).2.1 (by decide +kernel)).mono ?_; rintro e_ W_ ⟨rfl, hb⟩; have nO := Aside0.mk (HO.out.grow hb); clear HO hb; have HO := nO; clear nO; clear D3; have nO := Aside0.mk (HO.out.upto 0); clear HO; have HO := nO; clear nO; have D4 := trivial))
    | ((with_reducible refine gate_dst (N := 63) rfl ?_); (try (refine gate_guard (by rfl) ?_; dsimp only)); (refine ev_litC (Kd.int .i64) 3 (N := 63) (xs := ([2, 3, 2, 3] : List Int)) (inner := [.int .i64 2, .int .i64 3, .int .i64 2, .int .i64 3]) rfl ?hg ?hd ?hr ?hp (by decide) ?_; (case hd => rfl); (case hg => rfl); (case hr => first | (go_simp; done) | (go_simp; rfl)); (case hp => exact Reps.one (ci _ 2) (Reps.one (ci _ 3) (Reps.one (ci _ 2) (Reps.one (ci _ 3) (Reps.none _ _))))); intro g63 W63 hb hC; have H63 := Aside0.mk hC; have nO := Aside0.mk (HO.out.grow hb); clear HO; have HO := nO; clear nO; clear hC hb))
    | (go_at_call_has 30 (Value.slice (some ⟨g63, 0, none⟩) 4 4); (refine (abugidalaw16_glyphs.calls 50 (some ⟨g63, 0, none⟩) 4 ([2, 3, 2, 3] : List Int) ([⟨2, 0⟩, ⟨3, 0⟩, ⟨2, 0⟩, ⟨3, 0⟩] : List S55) _ H63.out (Nat.le_refl 4) (by kernel_rfl)).mono ?_; rintro e_ W_ ⟨v_, rfl, hR, hb⟩; have hO := HO.out.called hb hR; clear HO H63 hR hb; obtain ⟨A64, c64, rfl, -, -⟩ := hO.row_at 0 rfl; have HO := Aside0.mk hO; clear hO)))
  obtain ⟨ad64, c64_, hA64, hcl64, hK64, hcc64⟩ := Kd.C_get (HO.out.row_sl 0 rfl).2.2 z55 3 (by decide) (by decide)
  subst hA64
  obtain ⟨g64, rfl⟩ := Kd.R_head (HO.out.row_R 0 rfl)
  obtain rfl := k55_open hK64
  have HCC := Aside0.mk hcc64
  clear hcc64 hK64 hcl64
  go_upto_region 7 with (first
    | ((with_reducible refine gate_store (t := 3) (p := 67) rfl ?_); (refine ev_store1 (d := k55) HO.out rfl rfl 3 (.tmp 67) (.const (.int .i64 1)) rfl 3 1 (⟨3, 1⟩ : S55) (.int .i64 1) [.int .i64 1] [.int .i64 3, .int .i64 0] ?ha rfl rfl (by kernel_rfl) (by simp [Value.oneCell']) (by decide) rfl ?hc (by decide) (fun ok => k55_mkM _ _ _ (⟨3, 1⟩ : S55)) ?_; (case ha => first | rfl | (go_simp; done)); (case hc => intro j u hj; have h_ := HCC.out j u hj; rw [show ((⟨g64, 0, none⟩ : Addr).add (Int.toNat 3 * k55.sz + j)) = ⟨g64, 3 * k55.sz + j, none⟩ by simp [Addr.add, show k55.sz = 2 from rfl]] at h_; exact h_); intro W67 hO; have nO : Own W30 W67 [.row k55 55 W30.heap.size (.slice (some ⟨g64, 0, none⟩) 4 c64) ([⟨2, 0⟩, ⟨3, 0⟩, ⟨2, 0⟩, ⟨3, 1⟩] : List S55)] := hO; clear HO hO HCC; have HO := Aside0.mk nO; clear nO)))
  go_upto_region 8 with (first
    | ((with_reducible refine gate_dst (N := 68) rfl ?_); (try (refine gate_guard (by rfl) ?_; dsimp only)); (refine ev_litC (Kd.int .i64) 3 (N := 68) (xs := ([8, 2] : List Int)) (inner := [.int .i64 8, .int .i64 2]) rfl ?hg ?hd ?hr ?hp (by decide) ?_; (case hd => rfl); (case hg => rfl); (case hr => first | (go_simp; done) | (go_simp; rfl)); (case hp => exact Reps.one (ci _ 8) (Reps.one (ci _ 2) (Reps.none _ _))); intro g68 W68 hb hC; have H68 := Aside0.mk hC; have nO := Aside0.mk (HO.out.grow hb); clear HO; have HO := nO; clear nO; clear hC hb))
    | (go_at_call_has 30 (Value.slice (some ⟨g68, 0, none⟩) 2 2); (refine (abugidalaw16_glyphs.calls 50 (some ⟨g68, 0, none⟩) 2 ([8, 2] : List Int) ([⟨8, 0⟩, ⟨2, 0⟩] : List S55) _ H68.out (Nat.le_refl 2) (by kernel_rfl)).mono ?_; rintro e_ W_ ⟨v_, rfl, hR, hb⟩; have hO := HO.out.called hb hR; clear HO H68 hR hb; obtain ⟨A69, c69, rfl, -, -⟩ := hO.row_at 1 rfl; have HO := Aside0.mk hO; clear hO))
    | ((with_reducible refine gate_builtin (b := .append) (xs := #[.tmp 69, .tmp 71]) rfl ?_); at_builtin; (refine ev_append 1 HO.out rfl rfl (.tmp 69) (.tmp 71) 33 (.agg #[.int .i64 0, .int .i64 0]) 16 rfl Try.underlying33 hinf55 rfl (by decide) (by decide) (⟨3, 1⟩ : S55) [.int .i64 3, .int .i64 1] rfl rfl (k55_mkM _ _ _ _) (by decide) ?_; intro A72 c72 W72 hO; have nO : Own W30 W72 [.row k55 55 W30.heap.size (.slice (some ⟨g64, 0, none⟩) 4 c64) ([⟨2, 0⟩, ⟨3, 0⟩, ⟨2, 0⟩, ⟨3, 1⟩] : List S55), .row k55 55 W30.heap.size (.slice A72 3 c72) ([⟨8, 0⟩, ⟨2, 0⟩, ⟨3, 1⟩] : List S55)] := hO; clear HO hO; have HO := Aside0.mk nO; clear nO)))
  go_upto_region 9 with (first
    | ((with_reducible refine gate_dst (N := 75) rfl ?_); (refine ev_litC Kd.bool 4 (N := 75) (xs := ([true, true] : List Bool)) (inner := [.bool true, .bool true]) rfl ?hg ?hd ?hr ?hp (by decide) ?_; (case hd => rfl); (case hg => rfl); (case hr => first | (go_simp; done) | (go_simp; rfl)); (case hp => exact Reps.one (show Kd.bool.K _ true [.bool true] from rfl) (Reps.one (show Kd.bool.K _ true [.bool true] from rfl) (Reps.none _ _))); intro g75 W75 hb hC; have H75 := Aside0.mk hC; have nO := Aside0.mk (HO.out.grow hb); clear HO; have HO := nO; clear nO; clear hC hb))
    | (go_at_call 28; (refine (abugidalaw16_gives.calls 100 (some ⟨g29, 0, none⟩) 2 sanAll 1 (some ⟨g64, 0, none⟩) c64 ([⟨2, 0⟩, ⟨3, 0⟩, ⟨2, 0⟩, ⟨3, 1⟩] : List S55) (some ⟨g75, 0, none⟩) 2 [true, true] 3 A72 c72 ([⟨8, 0⟩, ⟨2, 0⟩, ⟨3, 1⟩] : List S55) true _ (HO.out.old H29.out) (Nat.le_refl 2) (HO.out.row_sl 0 rfl).2.2 (HO.out.row_sl 0 rfl).2.1 H75.out (Nat.le_refl 2) (HO.out.row_sl 1 rfl).2.2 (HO.out.row_sl 1 rfl).2.1 (by decide +kernel)).mono ?_; rintro e_ W_ ⟨rfl, hb⟩; have nO := Aside0.mk (HO.out.grow hb); clear HO hb; have HO := nO; clear nO; clear H75; have D5 := trivial))
    | (go_at_call 28; (refine (abugidalaw16_gives.calls 100 (some ⟨g29, 0, none⟩) 2 sanAll 1 (some ⟨g64, 0, none⟩) c64 ([⟨2, 0⟩, ⟨3, 0⟩, ⟨2, 0⟩, ⟨3, 1⟩] : List S55) (some ⟨g30, 0, none⟩) 1 [true] 2 A72 c72 ([⟨8, 0⟩, ⟨2, 0⟩, ⟨3, 1⟩] : List S55) true _ (HO.out.old H29.out) (Nat.le_refl 2) (HO.out.row_sl 0 rfl).2.2 (HO.out.row_sl 0 rfl).2.1 (HO.out.old H30.out) (Nat.le_refl 1) (HO.out.row_sl 1 rfl).2.2 (HO.out.row_sl 1 rfl).2.1 (by decide +kernel)).mono ?_; rintro e_ W_ ⟨rfl, hb⟩; have nO := Aside0.mk (HO.out.grow hb); clear HO hb; have HO := nO; clear nO; clear D5)))
  obtain ⟨ad, A20, c20, hA, hx, hl20, hC20⟩ := at_T24 H29.out 0 (by decide) (by decide)
  obtain rfl : ad = ⟨g29, 0, none⟩ := (Option.some.inj hA).symm
  have X30 : Aside0 (W30.cell? ⟨g29, 0, none⟩ = some (.slice A20 2 c20)) := ⟨hx⟩
  have HC20 := Aside0.mk (show k49.C W30 A20 2 [sanR0, sanR1] from hC20)
  have HL20 := Aside0.mk (show 2 ≤ c20 from hl20)
  have nO := Aside0.mk (HO.out.upto 0)
  clear HO
  have HO := nO
  have x0 := pw_cell_below HO.out.below X30.out
  clear nO hA hx hC20 hl20
  go_wp2_with (first
    | (go_at_call 19; (refine (rules_First.calls 100 A20 c20 [sanR0, sanR1] [1] _ (HO.out.old HC20.out) HL20.out (by kernel_rfl)).mono ?_; rintro e_ W_ ⟨v_, rfl, hR, hb⟩; have hO := HO.out.called hb hR; clear HO x0 hR hb; obtain ⟨A96, c96, rfl, -, -⟩ := hO.row_at 0 rfl; have HO := Aside0.mk hO; clear hO; have x0 := pw_cell_below HO.out.below X30.out))
    | ((with_reducible refine gate_dst (N := 97) rfl ?_); (try (refine gate_guard (by rfl) ?_; dsimp only)); (refine ev_litC (Kd.int .i64) 3 (N := 97) (xs := ([1] : List Int)) (inner := [.int .i64 1]) rfl ?hg ?hd ?hr ?hp (by decide) ?_; (case hd => rfl); (case hg => rfl); (case hr => first | (go_simp; done) | (go_simp; rfl)); (case hp => exact Reps.one (ci _ 1) (Reps.none _ _)); intro g97 W97 hb hC; have H97 := Aside0.mk hC; have nO := Aside0.mk (HO.out.grow hb); clear HO; have HO := nO; clear nO; clear hC hb; clear x0; have x0 := pw_cell_below HO.out.below X30.out))
    | (go_at_call 18; (refine (abugidaref16_SameInts.calls 100 A96 c96 [1] (some ⟨g97, 0, none⟩) 1 [1] true _ (HO.out.row_sl 0 rfl).2.2 (HO.out.row_sl 0 rfl).2.1 H97.out (Nat.le_refl 1) (by kernel_rfl)).mono ?_; rintro e_ W_ ⟨rfl, hd⟩; have nO := Aside0.mk ((HO.out.upto 0).grow hd.below); clear HO x0 hd H97; have HO := nO; clear nO; have x0 := pw_cell_below HO.out.below X30.out))
    | (go_at_call_has 16 (Value.int IntKind.i64 1); (refine (rules_Check.calls A20 c20 [sanR0, sanR1] 1 2 10 32 _ (HO.out.old HC20.out) HL20.out (by kernel_rfl)).mono ?_; rintro e_ W_ ⟨rfl, hb⟩; have nO := Aside0.mk (HO.out.grow hb); clear HO x0 hb; have HO := nO; clear nO; have x0 := pw_cell_below HO.out.below X30.out))
    | (go_at_call_has 16 (Value.int IntKind.i64 0); (refine (rules_Check.calls A20 c20 [sanR0, sanR1] 0 2 10 0 _ (HO.out.old HC20.out) HL20.out (by kernel_rfl)).mono ?_; rintro e_ W_ ⟨rfl, hb⟩; have nO := Aside0.mk (HO.out.grow hb); clear HO x0 hb; have HO := nO; clear nO; have x0 := pw_cell_below HO.out.below X30.out)))
  go_ret
  exact ⟨rfl, below_step HB.out HO.out.below⟩
end Go.Proofs.Ytlgkeaildncojaa.Q
end
section
/- A lookup carried over items: it ends; what it keeps; how many tries. -/
namespace Go.Proofs.Ytlgkeaildncojaa.Q
open Go.RowKit Go.Shelf Go.Proofs.YtlgkeaildncojaaW.PrintWords Go.Proofs.YtlgkeaildncojaaW.PrintLast Go.Proofs.YtlgkeaildncojaaW.PrintMore
set_option linter.unusedSimpArgs false
set_option linter.unusedVariables false
/-- What a lookup keeps of items. -/
structure Kept55 (may : List Bool) (its its2 : List S55) : Prop where
  sorted : its.Pairwise (fun a b => a.f1 ≤ b.f1) → its2.Pairwise (fun a b => a.f1 ≤ b.f1)
  rest : ∀ c, mayB may c = false → its2.filter (fun x => decide (x.f1 = c)) = its.filter (fun x => decide (x.f1 = c))
  from_ : ∀ x ∈ its2, ∃ y ∈ its, y.f1 = x.f1
theorem Kept55.refl (may : List Bool) (its : List S55) : Kept55 may its its := ⟨id, fun _ _ => rfl, fun x h => ⟨x, h, rfl⟩⟩
theorem Kept55.trans {may : List Bool} {a b c : List S55} (h : Kept55 may a b) (g : Kept55 may b c) : Kept55 may a c :=
  ⟨fun q => g.sorted (h.sorted q), fun x hx => (g.rest x hx).trans (h.rest x hx), fun x hx => by
    obtain ⟨y, hy, e⟩ := g.from_ x hx
    obtain ⟨z, hz, e2⟩ := h.from_ y hy
    exact ⟨z, hz, e2.trans e⟩⟩
theorem pair_const {c : Int} : ∀ {l : List S55}, (∀ x ∈ l, x.f1 = c) → l.Pairwise (fun a b => a.f1 ≤ b.f1)
  | [], _ => List.Pairwise.nil
  | x :: t, h => List.pairwise_cons.mpr ⟨fun y hy => by rw [h x List.mem_cons_self, h y (List.mem_cons_of_mem _ hy)]; exact Int.le_refl _, pair_const (fun y hy => h y (List.mem_cons_of_mem _ hy))⟩
theorem filter_const {c c' : Int} (hc : c' ≠ c) : ∀ {l : List S55}, (∀ x ∈ l, x.f1 = c') → l.filter (fun x => decide (x.f1 = c)) = []
  | [], _ => rfl
  | x :: t, h => by
    rw [List.filter_cons, if_neg (by rw [h x List.mem_cons_self]; simpa using hc)]
    exact filter_const hc (fun y hy => h y (List.mem_cons_of_mem _ hy))
theorem Gm.kept {may : List Bool} {its its2 : List S55} {a lo : Nat} {e c : Int} (h : Gm its its2 a e c lo) (hlo : a < lo) (hm : mayB may c = true) : Kept55 may its its2 := by
  obtain ⟨mid, j, rfl, rfl, k1, k2, k3, k4, k5⟩ := h
  have hs : its = its.take a ++ ((its.drop a).take (j - a) ++ its.drop j) := by
    conv => lhs; rw [← List.take_append_drop a its, ← List.take_append_drop (j - a) (its.drop a)]
    rw [List.drop_drop, show a + (j - a) = j by omega]
  have hseg : ∀ x ∈ (its.drop a).take (j - a), x.f1 = c := fun x hx => by
    obtain ⟨i, hi, rfl⟩ := List.getElem_of_mem hx
    rw [List.length_take, List.length_drop] at hi
    have h2 := k4 (a + i) (by omega) (by omega)
    rw [List.getD_eq_getElem?_getD, List.getElem?_eq_getElem (by omega)] at h2
    rw [List.getElem_take, List.getElem_drop]
    exact h2
  obtain ⟨s0, hs0⟩ : ∃ s0, s0 ∈ (its.drop a).take (j - a) := by
    cases hq : (its.drop a).take (j - a) with
    | nil =>
      have := congrArg List.length hq
      rw [List.length_take, List.length_drop, List.length_nil] at this
      omega
    | cons y t => exact ⟨y, List.mem_cons_self⟩
  have hc0 := hseg s0 hs0
  generalize (its.drop a).take (j - a) = seg at *
  generalize its.take a = T at *
  generalize its.drop j = D at *
  subst hs
  refine ⟨fun hp => ?_, fun c' hc' => ?_, fun x hx => ?_⟩
  · rw [List.pairwise_append] at hp ⊢
    obtain ⟨p1, p2, p3⟩ := hp
    rw [List.pairwise_append] at p2 ⊢
    obtain ⟨p4, p5, p6⟩ := p2
    refine ⟨p1, ⟨pair_const k5, p5, fun x hx y hy => ?_⟩, fun x hx y hy => ?_⟩
    · rw [k5 x hx, ← hc0]; exact p6 s0 hs0 y hy
    · rcases List.mem_append.mp hy with hy | hy
      · rw [k5 y hy, ← hc0]; exact p3 x hx s0 (List.mem_append_left _ hs0)
      · exact p3 x hx y (List.mem_append_right _ hy)
  · have hne : c ≠ c' := fun e => by rw [e, hc'] at hm; cases hm
    rw [List.filter_append, List.filter_append, List.filter_append, List.filter_append, filter_const hne k5, filter_const hne hseg]
  · rcases List.mem_append.mp hx with hx | hx
    · exact ⟨x, List.mem_append_left _ hx, rfl⟩
    · rcases List.mem_append.mp hx with hx | hx
      · exact ⟨s0, List.mem_append_right _ (List.mem_append_left _ hs0), by rw [hc0, k5 x hx]⟩
      · exact ⟨x, List.mem_append_right _ (List.mem_append_right _ hx), rfl⟩
end Go.Proofs.Ytlgkeaildncojaa.Q
end
section
/- RulesNone: the walk and its plain part. -/
namespace Go.Proofs.Ytlgkeaildncojaa.Q
open Go.RowKit Go.Shelf Go.Proofs.YtlgkeaildncojaaW.PrintWords Go.Proofs.YtlgkeaildncojaaW.PrintLast Go.Proofs.YtlgkeaildncojaaW.PrintMore
set_option linter.unusedSimpArgs false
set_option linter.unusedVariables false
theorem C_take {α : Type} {d : Kd α} {w : World} {A : Option Addr} {xs : List α} (h : d.C w A xs.length xs) (k : Nat) : d.C w A (xs.take k).length (xs.take k) := by
  obtain ⟨h1, h2, h3⟩ := h
  have hl : (xs.take k).length ≤ xs.length := by rw [List.length_take]; omega
  refine ⟨rfl, Nat.le_trans hl h2, fun h0 => ?_⟩
  obtain ⟨a, ha, h4⟩ := h3 (Nat.lt_of_lt_of_le h0 hl)
  refine ⟨a, ha, fun j p hj => h4 j p ?_⟩
  rw [List.getElem?_take] at hj
  split at hj
  · exact hj
  · cases hj
/-- What is left of items: those with which no rule begins, or whose cluster may not. -/
def keepP (may : List Bool) (first : List Int) (x : S55) : Bool := !mayB may x.f1 || !hasP first x.f0
def restP (may : List Bool) (first : List Int) (l : List S55) : List S55 := l.filter (keepP may first)
def manyP (may : List Bool) (first : List Int) (l : List S55) : Nat := ((restP may first l).filter (fun x => mayB may x.f1)).length
end Go.Proofs.Ytlgkeaildncojaa.Q
end
section
/- RulesCalls: the plain part. -/
namespace Go.Proofs.Ytlgkeaildncojaa.Q
open Go.RowKit Go.Shelf Go.Proofs.YtlgkeaildncojaaW.PrintWords Go.Proofs.YtlgkeaildncojaaW.PrintLast Go.Proofs.YtlgkeaildncojaaW.PrintMore
set_option linter.unusedSimpArgs false
set_option linter.unusedVariables false
def callR (f1 : List (List Int)) : S49 := ⟨[], f1, [], [], [⟨0, 1⟩]⟩
def plainR (f1 : List (List Int)) (f3 : List Int) : S49 := ⟨[], f1, [], f3, []⟩
def all2 (f1 : List (List Int)) (f3 : List Int) : List S24 := [⟨[callR f1]⟩, ⟨[plainR f1 f3]⟩]
theorem match_same (f1 : List (List Int)) (f3 : List Int) (its : List S55) (a : Int) : matchP (callR f1) its a = matchP (plainR f1 f3) its a := rfl
theorem apply_plain (all : List S24) (d : Nat) (f1 : List (List Int)) (f3 : List Int) (a : Nat) (its : List S55) (wk : Nat) (hl : its.length ≤ 200) (hw : wk ≤ 6001) : applyF all (d + 1) (plainR f1 f3) a its wk = if (putF its a (plainR f1 f3)).length > 200 then some (2, 0, putF its a (plainR f1 f3), wk) else some (0, ((a + f3.length : Nat) : Int), putF its a (plainR f1 f3), wk) := by
  rw [applyF, if_pos ⟨hl, hw⟩, if_pos (show (plainR f1 f3).f4.length = 0 from rfl)]
  rfl
theorem putF_len (its : List S55) (a : Nat) (r : S49) (h : a + r.f1.length ≤ its.length) : (putF its a r).length + r.f1.length = its.length + r.f3.length := by
  unfold putF
  simp only [List.length_append, List.length_take, List.length_map, List.length_drop]
  omega
theorem apply_call (d : Nat) (f1 : List (List Int)) (f3 : List Int) (a : Nat) (its : List S55) (wk : Nat) (hm : matchP (plainR f1 f3) its (a : Int) = true) (hl : its.length ≤ 200) (hw : wk + 1 ≤ 6000) :
    applyF (all2 f1 f3) (d + 2) (callR f1) a its wk = if (putF its a (plainR f1 f3)).length > 200 then some (2, 0, putF its a (plainR f1 f3), wk + 1) else some (0, ((a + f3.length : Nat) : Int), putF its a (plainR f1 f3), wk + 1) := by
  have hin := match_in hm
  have h1 : (plainR f1 f3).f1.length = f1.length := rfl
  have hi1 : 0 < f1.length := hin.2.2
  have hi2 : (a : Int) + (f1.length : Int) ≤ (its.length : Int) := hin.2.1
  have hpl := putF_len its a (plainR f1 f3) (by rw [h1]; omega)
  replace hpl : (putF its a (plainR f1 f3)).length + f1.length = its.length + f3.length := hpl
  rw [applyF, if_pos (show its.length ≤ 200 ∧ wk ≤ 6001 by omega), if_neg (show ¬ (callR f1).f4.length = 0 from (by decide : ¬ (1 : Nat) = 0)), show (callR f1).f4 = [⟨0, 1⟩] from rfl, show (callR f1).f1 = f1 from rfl, callsF, if_pos (show (a : Int) + (f1.length : Int) ≤ 1000000 ∧ -1000000 ≤ (a : Int) + (f1.length : Int) ∧ its.length ≤ 200 ∧ wk ≤ 6001 by omega), if_neg (show ¬ (a : Int) + (⟨0, 1⟩ : S60).f0 ≥ (a : Int) + (f1.length : Int) by dsimp only; omega), show (a : Int) + (⟨0, 1⟩ : S60).f0 = (a : Int) by dsimp only; omega, show (⟨0, 1⟩ : S60).f1 = 1 from rfl, show ((all2 f1 f3).getD (1 : Int).toNat z24).f0 = [plainR f1 f3] from rfl, tryF_cons, if_neg (show ¬ wk + 1 > 6000 by omega), if_pos hm]
  dsimp only
  rw [if_pos rfl, Int.toNat_natCast, apply_plain _ d f1 f3 a its (wk + 1) hl (by omega)]
  by_cases h2 : (putF its a (plainR f1 f3)).length > 200
  · rw [if_pos h2]
    rfl
  · rw [if_neg h2, Option.bind_some]
    dsimp only
    rw [if_pos rfl, callsF]
    congr 3
    unfold nextE
    rw [h1, if_neg (by omega), mx_r (by omega)]
theorem carry_calls2 (f1 : List (List Int)) (f3 : List Int) (may : List Bool) : ∀ (n a : Nat) (its : List S55) (wk wk' : Nat), (its.length - a) + 3 ≤ n → its.length ≤ 200 → wk + 2 * (its.length - a) ≤ 6000 → wk' + (its.length - a) ≤ 6000 →
    ∃ y y', carryF (all2 f1 f3) 0 may n a its wk = some y ∧ carryF (all2 f1 f3) 1 may n a its wk' = some y' ∧ y'.1 = y.1 ∧ (y.1 = 0 → y'.2.1 = y.2.1 ∧ y.2.1.length ≤ 200) := by
  intro n
  induction n with
  | zero => intro a its wk wk' h; omega
  | succ n ih =>
    intro a its wk wk' hn hl hw hw'
    rw [carryF, carryF, if_pos (show its.length ≤ 200 ∧ wk ≤ 6001 by omega), if_pos (show its.length ≤ 200 ∧ wk' ≤ 6001 by omega)]
    by_cases ha : a < its.length
    · rw [if_pos ha, if_pos ha]
      by_cases hmay : mayB may (its.getD a z55).f1 = true
      · rw [if_pos hmay, if_pos hmay, show ((all2 f1 f3).getD 0 z24).f0 = [callR f1] from rfl, show ((all2 f1 f3).getD 1 z24).f0 = [plainR f1 f3] from rfl, tryF_cons its (a : Int) (callR f1) [] wk, tryF_cons its (a : Int) (plainR f1 f3) [] wk', if_neg (show ¬ wk + 1 > 6000 by omega), if_neg (show ¬ wk' + 1 > 6000 by omega), match_same f1 f3]
        by_cases hm : matchP (plainR f1 f3) its (a : Int) = true
        · have hin := match_in hm
          have h1 : (plainR f1 f3).f1.length = f1.length := rfl
          have hpl := putF_len its a (plainR f1 f3) (by omega)
          rw [show (plainR f1 f3).f3 = f3 from rfl] at hpl
          rw [if_pos hm, if_pos hm]
          dsimp only
          rw [if_pos rfl, if_pos rfl]
          obtain ⟨d, rfl⟩ : ∃ d, n = d + 2 := ⟨n - 2, by omega⟩
          rw [apply_call d f1 f3 a its (wk + 1) hm hl (by omega), apply_plain _ (d + 1) f1 f3 a its (wk' + 1) hl (by omega)]
          by_cases h2 : (putF its a (plainR f1 f3)).length > 200
          · rw [if_pos h2, if_pos h2]
            exact ⟨_, _, rfl, rfl, rfl, fun h => (by cases h)⟩
          · rw [if_neg h2, if_neg h2, Option.bind_some, Option.bind_some]
            dsimp only
            rw [if_pos rfl, if_pos rfl, if_pos (by omega), if_pos (by omega), Int.toNat_natCast]
            exact ih (a + f3.length) _ (wk + 1 + 1) (wk' + 1) (by omega) (by omega) (by omega) (by omega)
        · rw [if_neg hm, if_neg hm]
          rw [show tryF its (a : Int) [] (wk + 1) = (0, none, wk + 1) from rfl, show tryF its (a : Int) [] (wk' + 1) = (0, none, wk' + 1) from rfl]
          dsimp only
          rw [if_pos rfl, if_pos rfl]
          exact ih (a + 1) its (wk + 1) (wk' + 1) (by omega) hl (by omega) (by omega)
      · rw [if_neg hmay, if_neg hmay]
        exact ih (a + 1) its wk wk' (by omega) hl (by omega) (by omega)
    · rw [if_neg ha, if_neg ha]
      exact ⟨_, _, rfl, rfl, rfl, fun _ => ⟨rfl, hl⟩⟩
theorem all2_ok (k : Int) (r : S49) (h : MadeR k r) : allP (all2 r.f1 r.f3).length 0 (all2 r.f1 r.f3) = 0 := by
  have hb := h.l1
  have h3 := h.l3
  have hs : ∀ l ∈ r.f1, GoodSet l := h.s1
  have hw : r.f1.any wrongP = false := by
    rw [List.any_eq_false]
    intro l hl
    rw [(hs l hl).wrong]
    decide
  have hk : r.f1.any (fun l => l.any (unkP 100)) = false := by
    rw [List.any_eq_false]
    intro l hl
    rw [(hs l hl).known (by decide)]
    decide
  have ho : r.f3.any (unkP 100) = false := by
    rw [List.any_eq_false]
    intro x hx
    have := h.s3 x hx
    unfold unkP
    simp
    omega
  have e1 : ruleP (callR r.f1) 0 2 100 = 0 := by
    unfold ruleP callR
    dsimp only
    rw [if_neg (by simp only [List.length_nil]; omega), if_neg (by simp), List.append_nil, List.append_nil, hw, if_neg (by decide), hk, if_neg (by simp), if_neg]
    rw [List.any_cons, List.any_nil, Bool.or_false]
    unfold callP
    dsimp only
    rw [decide_eq_false (show ¬ (0 : Int) < 0 by decide), decide_eq_false (show ¬ (0 : Int) ≥ (r.f1.length : Int) by omega), decide_eq_false (show ¬ (1 : Int) ≤ 0 by decide), decide_eq_false (show ¬ (1 : Int) ≥ 2 by decide)]
    decide
  have e2 : ruleP (plainR r.f1 r.f3) 1 2 100 = 0 := by
    unfold ruleP plainR
    dsimp only
    rw [if_neg (by simp only [List.length_nil]; omega), if_neg (by simp only [List.length_nil]; omega), List.append_nil, List.append_nil, hw, if_neg (by decide), hk, ho, if_neg (by simp), if_neg (by simp)]
  have c1 : checkP [callR r.f1] ((0 : Nat) : Int) ((2 : Nat) : Int) 100 = 0 := by
    unfold checkP
    rw [if_neg (by omega), if_neg (show ¬ [callR r.f1].length > 8 from (by decide : ¬ (1 : Nat) > 8)), rulesP, show ruleP (callR r.f1) ((0 : Nat) : Int) ((2 : Nat) : Int) 100 = 0 from e1, if_pos rfl]
    rfl
  have c2 : checkP [plainR r.f1 r.f3] ((1 : Nat) : Int) ((2 : Nat) : Int) 100 = 0 := by
    unfold checkP
    rw [if_neg (by omega), if_neg (show ¬ [plainR r.f1 r.f3].length > 8 from (by decide : ¬ (1 : Nat) > 8)), rulesP, show ruleP (plainR r.f1 r.f3) ((1 : Nat) : Int) ((2 : Nat) : Int) 100 = 0 from e2, if_pos rfl]
    rfl
  rw [show (all2 r.f1 r.f3).length = 2 from rfl]
  unfold all2
  rw [allP]
  dsimp only
  rw [c1, if_pos rfl, allP]
  dsimp only
  rw [c2, if_pos rfl]
  rfl
theorem calls_apply (k : Int) (r : S49) (h : MadeR k r) (may : List Bool) (its : List S55) (hl : its.length ≤ 24) :
    ∃ a n m e, applyO (all2 r.f1 r.f3) 0 its may = some (a, n, e) ∧ applyO (all2 r.f1 r.f3) 1 its may = some (a, m, e) ∧ a.length ≤ 200 := by
  obtain ⟨y, y', h1, h2, h4, h5⟩ := carry_calls2 r.f1 r.f3 may 2000000 0 its 0 0 (by omega) (by omega) (by omega) (by omega)
  have e1 : applyO (all2 r.f1 r.f3) 0 its may = if y.1 = 0 then some (y.2.1, (y.2.2 : Int), 0) else some ([], 0, y.1) := by
    rw [applyO, if_neg (show ¬ ((0 : Int) < 0 ∨ (0 : Int) ≥ ((all2 r.f1 r.f3).length : Int)) from (by decide : ¬ ((0 : Int) < 0 ∨ (0 : Int) ≥ ((2 : Nat) : Int)))), if_pos (all2_ok k r h), if_neg (by omega), show (0 : Int).toNat = 0 from rfl, h1, Option.bind_some]
  have e2 : applyO (all2 r.f1 r.f3) 1 its may = if y'.1 = 0 then some (y'.2.1, (y'.2.2 : Int), 0) else some ([], 0, y'.1) := by
    rw [applyO, if_neg (show ¬ ((1 : Int) < 0 ∨ (1 : Int) ≥ ((all2 r.f1 r.f3).length : Int)) from (by decide : ¬ ((1 : Int) < 0 ∨ (1 : Int) ≥ ((2 : Nat) : Int)))), if_pos (all2_ok k r h), if_neg (by omega), show (1 : Int).toNat = 1 from rfl, h2, Option.bind_some]
  rw [e1, e2, h4]
  by_cases h0 : y.1 = 0
  · obtain ⟨g1, g2⟩ := h5 h0
    rw [if_pos h0, if_pos h0, g1]
    exact ⟨_, _, _, _, rfl, rfl, g2⟩
  · rw [if_neg h0, if_neg h0]
    exact ⟨_, _, _, _, rfl, rfl, Nat.zero_le _⟩
end Go.Proofs.Ytlgkeaildncojaa.Q
end
section
/- RulesCalls: the walk. Printed by genRkw.py. -/
namespace Go.Proofs.Ytlgkeaildncojaa.Q
open Go.RowKit Go.Shelf Go.Proofs.YtlgkeaildncojaaW.PrintWords Go.Proofs.YtlgkeaildncojaaW.PrintLast Go.Proofs.YtlgkeaildncojaaW.PrintMore
set_option linter.unusedSimpArgs false
set_option linter.unusedVariables false

set_option maxRecDepth 100000 in
set_option maxHeartbeats 8000000 in
theorem rulesCalls_calls (A0 : Option Addr) (c0 : Nat) (L : List (List Int)) (A1 : Option Addr) (c1 : Nat) (I : List Int) (o0 o1 o2 kq : Int) (A4 : Option Addr) (c4 : Nat) (M : List Bool) (w : World)
    (hr0 : Kd.C (Kd.slice 3 (Kd.int .i64)) w A0 L.length L) (hc0 : L.length ≤ c0) (hr1 : Kd.C (Kd.int .i64) w A1 I.length I) (hc1 : I.length ≤ c1) (hr4 : Kd.C Kd.bool w A4 M.length M) (hc4 : M.length ≤ c4) (hk : 0 ≤ kq ∧ kq ≤ 255) :
    Calls Try.prog 6 #[.agg #[.slice A0 L.length c0, .slice A1 I.length c1, .int .i64 o0, .int .i64 o1, .int .i64 o2, .int .u8 kq, .slice A4 M.length c4]] w fun e w' => e = .returned (.bool true) ∧ Below w.heap.size w w' := by
  have HCASE := Aside0.mk (fun W (hb : Below w.heap.size w W) => case_plain A0 c0 L A1 c1 I o0 o1 o2 kq A4 c4 M W (Kd.C_below hr0 hb) hc0 (lens hr0 rfl) (Kd.C_below hr1 hb) hc1 hc4 hk)
  have HM0 := Aside0.mk (C_take hr4 30)
  have HCM := Aside0.mk (show (M.take 30).length ≤ c4 by rw [List.length_take]; omega)
  generalize M.take 30 = may at HCASE HM0 HCM
  have HK := Aside0.mk (Nat.mod_lt kq.toNat (show 0 < 3 by decide))
  have HO := Aside0.mk (Own.start w)
  obtain ⟨k, hkk⟩ : ∃ k, kq.toNat % 3 = k := ⟨_, rfl⟩
  rw [hkk] at HK
  simp only [hkk] at HCASE
  clear hkk hr0 hc0 hr1 hc1 hr4 hc4 hk
  go_enter Try.func6, Try.ntmps6

  go_upto_region 3 with (first
    | ((with_reducible refine gate_dst (N := 1) rfl ?_); (refine ev_box (N := 1) (cs := #[.slice A0 L.length c0, .slice A1 I.length c1, .int .i64 o0, .int .i64 o1, .int .i64 o2, .int .u8 kq, .slice A4 M.length c4]) (t := 30) HO.out rfl rfl ?hr ?_; (case hr => first | (go_simp; done) | (go_simp; rfl)); intro g1 W1 hO hb1; clear HO hb1; have HO := Aside0.mk hO; clear hO))
    | (go_at_call 11; (refine (abugidalaw16_sanity.calls 0 true _ rfl).mono ?_; rintro e_ W_ ⟨rfl, hb⟩; have nO := Aside0.mk (HO.out.grow hb); clear HO hb; have HO := nO; clear nO; have b0 := HO.out.box_cell 0 rfl 0 rfl; have b1 := HO.out.box_cell 0 rfl 1 rfl; have b2 := HO.out.box_cell 0 rfl 2 rfl; have b3 := HO.out.box_cell 0 rfl 3 rfl; have b4 := HO.out.box_cell 0 rfl 4 rfl; have b5 := HO.out.box_cell 0 rfl 5 rfl; have b6 := HO.out.box_cell 0 rfl 6 rfl))
    | (go_at_call 12; (refine (HCASE.out _ HO.out.below).mono ?_; rintro e_ W3 ⟨v1_, v3_, rfl, hO3⟩; have HB := Aside0.mk (below_step HO.out.below hO3.below); obtain ⟨A5, c5, rfl, hc5, hC5⟩ := hO3.row_at 0 rfl; obtain ⟨A7, c7, rfl, hc7, hC7⟩ := hO3.row_at 1 rfl; have HA := Aside0.mk hC5; have HCA := Aside0.mk hc5; have HI := Aside0.mk hC7; have HCI := Aside0.mk hc7; clear hC5 hc5 hC7 hc7 hO3 HO HCASE b0 b1 b2 b3 b4 b5 b6; have HO := Aside0.mk (Own.start W3))))
  have HM := Aside0.mk (Kd.C_below HM0.out HB.out)
  clear HM0
  have hgd := (madeAll_good L k HK.out).2
  obtain ⟨ad, A6, c6, hA, x0, y0, y1⟩ := at_T24 HA.out (k : Int) (by omega) (by have := madeAll_len L; have := HK.out; omega)
  subst hA
  rw [show rd_T24 (madeAll L) (k : Int) = (madeAll L).getD k z24 from rfl] at x0 y0 y1
  rw [Int.toNat_natCast] at x0
  have HLK := Aside0.mk (madeAll_3 L k)
  obtain ⟨rs, hrs⟩ : ∃ rs, ((madeAll L).getD k z24).f0 = rs := ⟨_, rfl⟩
  simp only [hrs] at x0 y0 y1 hgd
  rw [hrs] at HLK
  have HGD := Aside0.mk hgd
  have HR := Aside0.mk y1
  have HIL := Aside0.mk (itemsM_len I)
  have HAPP := Aside0.mk (fun (r : S49) (h : MadeR (k : Int) r) => calls_apply (k : Int) r h may (itemsM I) (itemsM_len I))
  generalize itemsM I = its at *
  have hal := madeAll_len L
  generalize madeAll L = all at *
  have q0 : (0 ≤ (k : Int)) = True := eq_true (by omega)
  have q1 : ((k : Int) < (all.length : Int)) = True := eq_true (by have := HK.out; omega)
  clear hgd hrs y0 y1 hal
  go_wp2
  clear x0
  go_loopw [32] (fun v32 w' => ∃ j : Nat, v32 = .int .i64 j ∧ Aside0 (j ≤ rs.length) ∧ Aside0 (Own W3 w' [])) (fun v32 _ => rs.length - (intOf v32).toNat)
  case atStart => exact ⟨0, rfl, ⟨Nat.zero_le _⟩, HO⟩
  case round =>
    clear HO
    obtain ⟨j, rfl, HJ, HO⟩ := hrel
    by_cases hlt : j < rs.length
    case neg =>
      have r1 : ((j : Int) < (rs.length : Int)) = False := eq_false (by omega)
      have d1 : decide ((j : Int) < (rs.length : Int)) = false := decide_eq_false (by omega)
      clear hlt
      go_wp2
      go_ret
      exact ⟨rfl, below_step HB.out HO.out.below⟩
    have hmem := getD_in rs j z49 hlt
    obtain ⟨adr, A0', c0', A1', c1', A2', c2', A3', c3', A4', c4', hA, x0, x1, x2, x3, x4, y0, y1, y2, y3, y4, y5, y6, y7, y8, y9⟩ := at_T49 HR.out (j : Int) (by omega) (by omega)
    subst hA
    rw [show rd_T49 rs (j : Int) = rs.getD j z49 from rfl] at x0 x1 x2 x3 x4 y0 y1 y2 y3 y4 y5 y6 y7 y8 y9
    rw [Int.toNat_natCast] at x0 x1 x2 x3 x4
    replace x0 := pw_cell_below HO.out.below x0
    replace x1 := pw_cell_below HO.out.below x1
    replace x2 := pw_cell_below HO.out.below x2
    replace x3 := pw_cell_below HO.out.below x3
    replace x4 := pw_cell_below HO.out.below x4
    have hmade := HGD.out _ hmem
    generalize rs.getD j z49 = yv at *
    obtain ⟨f0, f1, f2, f3, f4⟩ := yv
    dsimp only at x0 x1 x2 x3 x4 y0 y1 y2 y3 y4 y5 y6 y7 y8 y9
    obtain ⟨al, an, am, ae, hap1, hap2, hall⟩ := HAPP.out _ hmade
    dsimp only at hap1 hap2
    have HAP1 := Aside0.mk (show rules_Apply.f (all2 f1 f3) 0 its may = some (al, an, ae) from hap1)
    have HAP2 := Aside0.mk (show rules_Apply.f (all2 f1 f3) 1 its may = some (al, am, ae) from hap2)
    obtain ⟨ks, hks⟩ := Ev.rounds (sameT_ev al (by omega))
    have HKS := Aside0.mk hks
    have HL1 := Aside0.mk y2
    have HL3 := Aside0.mk y6
    have F1 := Aside0.mk y3
    have F3 := Aside0.mk y7
    have r1 : ((j : Int) < (rs.length : Int)) = True := eq_true (by omega)
    have r0 : (0 ≤ (j : Int)) = True := eq_true (by omega)
    have hkb : (j : Int) + 1 ≤ 9223372036854775807 := by have := HLK.out; omega
    have HJL := Aside0.mk hlt
    have HBL := Aside0.mk HO.out.below
    have G1 := Aside0.mk (HO.out.old HI.out)
    have G2 := Aside0.mk (HO.out.old HM.out)
    have n_ := Aside0.mk (HO.out.old F1.out)
    clear F1
    have F1 := n_
    clear n_
    have n_ := Aside0.mk (HO.out.old F3.out)
    clear F3
    have F3 := n_
    clear n_ y0 y1 y2 y3 y4 y5 y6 y7 y8 y9 hlt hmem hmade hap1 hap2 hall hks HO
    go_wp2_with (first
      | ((with_reducible refine gate_dst (N := 9) rfl ?_); (refine ev_box (N := 9) (cs := #[.slice none 0 0, .slice none 0 0, .slice none 0 0, .slice none 0 0, .slice none 0 0]) (t := 49) (Own.start _) rfl rfl ?hr ?_; (case hr => first | (go_simp; done) | (go_simp; rfl)); intro g9 W_ hO hb_; have HO9 := Aside0.mk hO; have n_ := pw_cell_below hb_ x0; clear x0; have x0 := n_; clear n_; have n_ := pw_cell_below hb_ x1; clear x1; have x1 := n_; clear n_; have n_ := pw_cell_below hb_ x2; clear x2; have x2 := n_; clear n_; have n_ := pw_cell_below hb_ x3; clear x3; have x3 := n_; clear n_; have n_ := pw_cell_below hb_ x4; clear x4; have x4 := n_; clear n_; clear hO hb_))
      | ((with_reducible refine gate_store (t := 49) (p := 9) rfl ?_); (refine ev_store (cs' := #[.slice A0' f0.length c0', .slice A1' f1.length c1', .slice A2' f2.length c2', .slice A3' f3.length c3', .slice A4' f4.length c4']) (.agg #[.slice A0' f0.length c0', .slice A1' f1.length c1', .slice A2' f2.length c2', .slice A3' f3.length c3', .slice A4' f4.length c4']) 0 HO9.out rfl rfl rfl rfl 0 rfl rfl sz49 (by simp [Value.oneCell', Value.cells]) (Nat.le_refl _) rfl ?_; intro W_ hO; have n_ := Aside0.mk (below_step HBL.out hO.below); clear HBL; have HBL := n_; clear n_; have n_ := Aside0.mk (Kd.C_below G1.out hO.below); clear G1; have G1 := n_; clear n_; have n_ := Aside0.mk (Kd.C_below G2.out hO.below); clear G2; have G2 := n_; clear n_; have n_ := Aside0.mk (Kd.C_below F1.out hO.below); clear F1; have F1 := n_; clear n_; have n_ := Aside0.mk (Kd.C_below F3.out hO.below); clear F3; have F3 := n_; clear n_; clear x0 x1 x2 x3 x4; have z1 := hO.box_cell 0 rfl 1 rfl; have z3 := hO.box_cell 0 rfl 3 rfl; clear hO HO9))
      | ((with_reducible refine gate_dst (N := 41) rfl ?_); (refine ev_litC k49 49 (N := 41) (n := 1) (xs := [plainR f1 f3]) (inner := [.slice none 0 0, .slice A1' f1.length c1', .slice none 0 0, .slice A3' f3.length c3', .slice none 0 0]) rfl ?hg ?hd ?hr ?hp (by decide) ?_; (case hd => rfl); (case hg => rfl); (case hr => first | (go_simp; done) | (go_simp; rfl)); (case hp => exact ((Reps.none _ 5).snoc (show k49.K _ (plainR f1 f3) [.slice none 0 0, .slice A1' f1.length c1', .slice none 0 0, .slice A3' f3.length c3', .slice none 0 0] from k49_mk _ (plainR f1 f3) (Nat.le_refl 0) (Kd.C_nil _ _) HL1.out F1.out (Nat.le_refl 0) (Kd.C_nil _ _) HL3.out F3.out (Nat.le_refl 0) (Kd.C_nil _ _)) rfl)); intro g41 W_ hb hC; have H41 := Aside0.mk hC; clear hC; have n_ := Aside0.mk (below_step HBL.out hb); clear HBL; have HBL := n_; clear n_; have n_ := Aside0.mk (Kd.C_below G1.out hb); clear G1; have G1 := n_; clear n_; have n_ := Aside0.mk (Kd.C_below G2.out hb); clear G2; have G2 := n_; clear n_; have n_ := Aside0.mk (Kd.C_below F1.out hb); clear F1; have F1 := n_; clear n_; have n_ := Aside0.mk (Kd.C_below F3.out hb); clear F3; have F3 := n_; clear n_; have n_ := pw_cell_below hb z1; clear z1; have z1 := n_; clear n_; have n_ := pw_cell_below hb z3; clear z3; have z3 := n_; clear n_; clear hb))
      | ((with_reducible refine gate_dst (N := 10) rfl ?_); (refine ev_box (N := 10) (cs := #[.slice none 0 0]) (t := 24) (Own.start _) rfl rfl ?hr ?_; (case hr => first | (go_simp; done) | (go_simp; rfl)); intro g10 W_ hO hb_; have HO10 := Aside0.mk hO; clear hO hb_))
      | ((with_reducible refine gate_store (t := 24) (p := 10) rfl ?_); (refine ev_store (cs' := #[.slice (some ⟨g41, 0, none⟩) 1 1]) (.agg #[.slice (some ⟨g41, 0, none⟩) 1 1]) 0 HO10.out rfl rfl rfl rfl 0 rfl rfl sz24 (by simp [Value.oneCell', Value.cells]) (Nat.le_refl _) rfl ?_; intro W_ hO; have n_ := Aside0.mk (below_step HBL.out hO.below); clear HBL; have HBL := n_; clear n_; have n_ := Aside0.mk (Kd.C_below G1.out hO.below); clear G1; have G1 := n_; clear n_; have n_ := Aside0.mk (Kd.C_below G2.out hO.below); clear G2; have G2 := n_; clear n_; have n_ := Aside0.mk (Kd.C_below F1.out hO.below); clear F1; have F1 := n_; clear n_; have n_ := Aside0.mk (Kd.C_below F3.out hO.below); clear F3; have F3 := n_; clear n_; have n_ := Aside0.mk (Kd.C_below H41.out hO.below); clear H41; have H41 := n_; clear n_; have n_ := pw_cell_below hO.below z1; clear z1; have z1 := n_; clear n_; have n_ := pw_cell_below hO.below z3; clear z3; have z3 := n_; clear n_; have zt10 := hO.box_cell 0 rfl 0 rfl; clear hO HO10))
      | ((with_reducible refine gate_dst (N := 46) rfl ?_); (refine ev_litC k60 60 (N := 46) (n := 1) (xs := ([⟨0, 1⟩] : List S60)) (inner := [.int .i64 0, .int .i64 1]) rfl ?hg ?hd ?hr ?hp (by decide) ?_; (case hd => rfl); (case hg => rfl); (case hr => first | (go_simp; done) | (go_simp; rfl)); (case hp => exact ((Reps.none _ 2).snoc (show k60.K _ (⟨0, 1⟩ : S60) [.int .i64 0, .int .i64 1] from k60_mk _ (⟨0, 1⟩ : S60)) rfl)); intro g46 W_ hb hC; have H46 := Aside0.mk hC; clear hC; have n_ := Aside0.mk (below_step HBL.out hb); clear HBL; have HBL := n_; clear n_; have n_ := Aside0.mk (Kd.C_below G1.out hb); clear G1; have G1 := n_; clear n_; have n_ := Aside0.mk (Kd.C_below G2.out hb); clear G2; have G2 := n_; clear n_; have n_ := Aside0.mk (Kd.C_below F1.out hb); clear F1; have F1 := n_; clear n_; have n_ := Aside0.mk (Kd.C_below F3.out hb); clear F3; have F3 := n_; clear n_; have n_ := Aside0.mk (Kd.C_below H41.out hb); clear H41; have H41 := n_; clear n_; have n_ := pw_cell_below hb z1; clear z1; have z1 := n_; clear n_; have n_ := pw_cell_below hb z3; clear z3; have z3 := n_; clear n_; have n_ := pw_cell_below hb zt10; clear zt10; have zt10 := n_; clear n_; clear hb))
      | ((with_reducible refine gate_dst (N := 48) rfl ?_); (refine ev_litC k49 49 (N := 48) (n := 1) (xs := [callR f1]) (inner := [.slice none 0 0, .slice A1' f1.length c1', .slice none 0 0, .slice none 0 0, .slice (some ⟨g46, 0, none⟩) 1 1]) rfl ?hg ?hd ?hr ?hp (by decide) ?_; (case hd => rfl); (case hg => rfl); (case hr => first | (go_simp; done) | (go_simp; rfl)); (case hp => exact ((Reps.none _ 5).snoc (show k49.K _ (callR f1) [.slice none 0 0, .slice A1' f1.length c1', .slice none 0 0, .slice none 0 0, .slice (some ⟨g46, 0, none⟩) 1 1] from k49_mk _ (callR f1) (Nat.le_refl 0) (Kd.C_nil _ _) HL1.out F1.out (Nat.le_refl 0) (Kd.C_nil _ _) (Nat.le_refl 0) (Kd.C_nil _ _) (Nat.le_refl 1) H46.out) rfl)); intro g48 W_ hb hC; have H48 := Aside0.mk hC; clear hC; have n_ := Aside0.mk (below_step HBL.out hb); clear HBL; have HBL := n_; clear n_; have n_ := Aside0.mk (Kd.C_below G1.out hb); clear G1; have G1 := n_; clear n_; have n_ := Aside0.mk (Kd.C_below G2.out hb); clear G2; have G2 := n_; clear n_; have n_ := Aside0.mk (Kd.C_below F1.out hb); clear F1; have F1 := n_; clear n_; have n_ := Aside0.mk (Kd.C_below F3.out hb); clear F3; have F3 := n_; clear n_; have n_ := Aside0.mk (Kd.C_below H41.out hb); clear H41; have H41 := n_; clear n_; have n_ := Aside0.mk (Kd.C_below H46.out hb); clear H46; have H46 := n_; clear n_; have n_ := pw_cell_below hb z1; clear z1; have z1 := n_; clear n_; have n_ := pw_cell_below hb z3; clear z3; have z3 := n_; clear n_; have n_ := pw_cell_below hb zt10; clear zt10; have zt10 := n_; clear n_; clear hb))
      | ((with_reducible refine gate_dst (N := 11) rfl ?_); (refine ev_box (N := 11) (cs := #[.slice none 0 0]) (t := 24) (Own.start _) rfl rfl ?hr ?_; (case hr => first | (go_simp; done) | (go_simp; rfl)); intro g11 W_ hO hb_; have HO11 := Aside0.mk hO; clear hO hb_))
      | ((with_reducible refine gate_store (t := 24) (p := 11) rfl ?_); (refine ev_store (cs' := #[.slice (some ⟨g48, 0, none⟩) 1 1]) (.agg #[.slice (some ⟨g48, 0, none⟩) 1 1]) 0 HO11.out rfl rfl rfl rfl 0 rfl rfl sz24 (by simp [Value.oneCell', Value.cells]) (Nat.le_refl _) rfl ?_; intro W_ hO; have n_ := Aside0.mk (below_step HBL.out hO.below); clear HBL; have HBL := n_; clear n_; have n_ := Aside0.mk (Kd.C_below G1.out hO.below); clear G1; have G1 := n_; clear n_; have n_ := Aside0.mk (Kd.C_below G2.out hO.below); clear G2; have G2 := n_; clear n_; have n_ := Aside0.mk (Kd.C_below F1.out hO.below); clear F1; have F1 := n_; clear n_; have n_ := Aside0.mk (Kd.C_below F3.out hO.below); clear F3; have F3 := n_; clear n_; have n_ := Aside0.mk (Kd.C_below H41.out hO.below); clear H41; have H41 := n_; clear n_; have n_ := Aside0.mk (Kd.C_below H46.out hO.below); clear H46; have H46 := n_; clear n_; have n_ := Aside0.mk (Kd.C_below H48.out hO.below); clear H48; have H48 := n_; clear n_; have n_ := pw_cell_below hO.below z1; clear z1; have z1 := n_; clear n_; have n_ := pw_cell_below hO.below z3; clear z3; have z3 := n_; clear n_; have n_ := pw_cell_below hO.below zt10; clear zt10; have zt10 := n_; clear n_; have zt11 := hO.box_cell 0 rfl 0 rfl; clear hO HO11))
      | ((with_reducible refine gate_dst (N := 53) rfl ?_); (refine ev_litC k24 24 (N := 53) (n := 2) (xs := (all2 f1 f3)) (inner := [.slice (some ⟨g48, 0, none⟩) 1 1, .slice (some ⟨g41, 0, none⟩) 1 1]) rfl ?hg ?hd ?hr ?hp (by decide) ?_; (case hd => rfl); (case hg => rfl); (case hr => first | (go_simp; done) | (go_simp; rfl)); (case hp => exact (Reps.one (show k24.K _ (⟨[callR f1]⟩ : S24) [.slice (some ⟨g48, 0, none⟩) 1 1] from k24_mk _ (⟨[callR f1]⟩ : S24) (Nat.le_refl 1) H48.out) (Reps.one (show k24.K _ (⟨[plainR f1 f3]⟩ : S24) [.slice (some ⟨g41, 0, none⟩) 1 1] from k24_mk _ (⟨[plainR f1 f3]⟩ : S24) (Nat.le_refl 1) H41.out) (Reps.none _ _)))); intro g53 W_ hb hC; have H53 := Aside0.mk hC; clear hC; have n_ := Aside0.mk (below_step HBL.out hb); clear HBL; have HBL := n_; clear n_; have n_ := Aside0.mk (Kd.C_below G1.out hb); clear G1; have G1 := n_; clear n_; have n_ := Aside0.mk (Kd.C_below G2.out hb); clear G2; have G2 := n_; clear n_; have n_ := Aside0.mk (Kd.C_below F1.out hb); clear F1; have F1 := n_; clear n_; have n_ := Aside0.mk (Kd.C_below F3.out hb); clear F3; have F3 := n_; clear n_; have n_ := Aside0.mk (Kd.C_below H41.out hb); clear H41; have H41 := n_; clear n_; have n_ := Aside0.mk (Kd.C_below H46.out hb); clear H46; have H46 := n_; clear n_; have n_ := Aside0.mk (Kd.C_below H48.out hb); clear H48; have H48 := n_; clear n_; have n_ := pw_cell_below hb z1; clear z1; have z1 := n_; clear n_; have n_ := pw_cell_below hb z3; clear z3; have z3 := n_; clear n_; have n_ := pw_cell_below hb zt10; clear zt10; have zt10 := n_; clear n_; have n_ := pw_cell_below hb zt11; clear zt11; have zt11 := n_; clear n_; clear hb))
      | (go_at_call_has 23 (Value.slice (some ⟨g53, 0, none⟩) 2 2); (refine (rules_Apply.calls (some ⟨g53, 0, none⟩) 2 (all2 f1 f3) 0 A7 c7 its A4 c4 may al an ae _ H53.out (Nat.le_refl 2) G1.out HCI.out G2.out HCM.out HAP1.out).mono ?_; rintro e_ W_ ⟨v_, rfl, hR, hb⟩; have HO := Aside0.mk ((Own.start _).called hb hR); clear H53; have n_ := Aside0.mk (below_step HBL.out hb); clear HBL; have HBL := n_; clear n_; have n_ := Aside0.mk (Kd.C_below G1.out hb); clear G1; have G1 := n_; clear n_; have n_ := Aside0.mk (Kd.C_below G2.out hb); clear G2; have G2 := n_; clear n_; have n_ := Aside0.mk (Kd.C_below F1.out hb); clear F1; have F1 := n_; clear n_; have n_ := Aside0.mk (Kd.C_below F3.out hb); clear F3; have F3 := n_; clear n_; have n_ := Aside0.mk (Kd.C_below H41.out hb); clear H41; have H41 := n_; clear n_; have n_ := Aside0.mk (Kd.C_below H46.out hb); clear H46; have H46 := n_; clear n_; have n_ := Aside0.mk (Kd.C_below H48.out hb); clear H48; have H48 := n_; clear n_; have n_ := pw_cell_below hb z1; clear z1; have z1 := n_; clear n_; have n_ := pw_cell_below hb z3; clear z3; have z3 := n_; clear n_; have n_ := pw_cell_below hb zt10; clear zt10; have zt10 := n_; clear n_; have n_ := pw_cell_below hb zt11; clear zt11; have zt11 := n_; clear n_; clear hR hb; obtain ⟨A57, c57, rfl, -, -⟩ := HO.out.row_at 0 rfl))
      | ((with_reducible refine gate_dst (N := 63) rfl ?_); (refine ev_litC k24 24 (N := 63) (n := 2) (xs := (all2 f1 f3)) (inner := [.slice (some ⟨g48, 0, none⟩) 1 1, .slice (some ⟨g41, 0, none⟩) 1 1]) rfl ?hg ?hd ?hr ?hp (by decide) ?_; (case hd => rfl); (case hg => rfl); (case hr => first | (go_simp; done) | (go_simp; rfl)); (case hp => exact (Reps.one (show k24.K _ (⟨[callR f1]⟩ : S24) [.slice (some ⟨g48, 0, none⟩) 1 1] from k24_mk _ (⟨[callR f1]⟩ : S24) (Nat.le_refl 1) H48.out) (Reps.one (show k24.K _ (⟨[plainR f1 f3]⟩ : S24) [.slice (some ⟨g41, 0, none⟩) 1 1] from k24_mk _ (⟨[plainR f1 f3]⟩ : S24) (Nat.le_refl 1) H41.out) (Reps.none _ _)))); intro g63 W_ hb hC; have H63 := Aside0.mk hC; clear hC; have n_ := Aside0.mk (below_step HBL.out hb); clear HBL; have HBL := n_; clear n_; have n_ := Aside0.mk (Kd.C_below G1.out hb); clear G1; have G1 := n_; clear n_; have n_ := Aside0.mk (Kd.C_below G2.out hb); clear G2; have G2 := n_; clear n_; have n_ := Aside0.mk (Kd.C_below F1.out hb); clear F1; have F1 := n_; clear n_; have n_ := Aside0.mk (Kd.C_below F3.out hb); clear F3; have F3 := n_; clear n_; have n_ := Aside0.mk (Kd.C_below H41.out hb); clear H41; have H41 := n_; clear n_; have n_ := Aside0.mk (Kd.C_below H46.out hb); clear H46; have H46 := n_; clear n_; have n_ := Aside0.mk (Kd.C_below H48.out hb); clear H48; have H48 := n_; clear n_; have n_ := pw_cell_below hb z1; clear z1; have z1 := n_; clear n_; have n_ := pw_cell_below hb z3; clear z3; have z3 := n_; clear n_; have n_ := pw_cell_below hb zt10; clear zt10; have zt10 := n_; clear n_; have n_ := pw_cell_below hb zt11; clear zt11; have zt11 := n_; clear n_; have nO := Aside0.mk (HO.out.grow hb); clear HO; have HO := nO; clear nO; clear hb))
      | (go_at_call_has 23 (Value.slice (some ⟨g63, 0, none⟩) 2 2); (refine (rules_Apply.calls (some ⟨g63, 0, none⟩) 2 (all2 f1 f3) 1 A7 c7 its A4 c4 may al am ae _ H63.out (Nat.le_refl 2) G1.out HCI.out G2.out HCM.out HAP2.out).mono ?_; rintro e_ W_ ⟨v_, rfl, hR, hb⟩; have nO := Aside0.mk (HO.out.called hb hR); clear HO H63; have HO := nO; clear nO; have n_ := Aside0.mk (below_step HBL.out hb); clear HBL; have HBL := n_; clear n_; have n_ := Aside0.mk (Kd.C_below G1.out hb); clear G1; have G1 := n_; clear n_; have n_ := Aside0.mk (Kd.C_below G2.out hb); clear G2; have G2 := n_; clear n_; have n_ := Aside0.mk (Kd.C_below F1.out hb); clear F1; have F1 := n_; clear n_; have n_ := Aside0.mk (Kd.C_below F3.out hb); clear F3; have F3 := n_; clear n_; have n_ := Aside0.mk (Kd.C_below H41.out hb); clear H41; have H41 := n_; clear n_; have n_ := Aside0.mk (Kd.C_below H46.out hb); clear H46; have H46 := n_; clear n_; have n_ := Aside0.mk (Kd.C_below H48.out hb); clear H48; have H48 := n_; clear n_; have n_ := pw_cell_below hb z1; clear z1; have z1 := n_; clear n_; have n_ := pw_cell_below hb z3; clear z3; have z3 := n_; clear n_; have n_ := pw_cell_below hb zt10; clear zt10; have zt10 := n_; clear n_; have n_ := pw_cell_below hb zt11; clear zt11; have zt11 := n_; clear n_; clear hR hb; obtain ⟨A67, c67, rfl, -, -⟩ := HO.out.row_at 1 rfl))
      | (go_at_call 26; (refine (abugidaref16_Same.calls ks A57 c57 al A67 c67 al true _ (HO.out.row_sl 0 rfl).2.2 (HO.out.row_sl 0 rfl).2.1 (HO.out.row_sl 1 rfl).2.2 (HO.out.row_sl 1 rfl).2.1 HKS.out).mono ?_; rintro e_ W_ ⟨rfl, hd⟩; have hb := hd.below; have n_ := Aside0.mk (below_step HBL.out hb); clear HBL; have HBL := n_; clear n_; have n_ := Aside0.mk (Kd.C_below G1.out hb); clear G1; have G1 := n_; clear n_; have n_ := Aside0.mk (Kd.C_below G2.out hb); clear G2; have G2 := n_; clear n_; have n_ := Aside0.mk (Kd.C_below F1.out hb); clear F1; have F1 := n_; clear n_; have n_ := Aside0.mk (Kd.C_below F3.out hb); clear F3; have F3 := n_; clear n_; have n_ := Aside0.mk (Kd.C_below H41.out hb); clear H41; have H41 := n_; clear n_; have n_ := Aside0.mk (Kd.C_below H46.out hb); clear H46; have H46 := n_; clear n_; have n_ := Aside0.mk (Kd.C_below H48.out hb); clear H48; have H48 := n_; clear n_; have n_ := pw_cell_below hb z1; clear z1; have z1 := n_; clear n_; have n_ := pw_cell_below hb z3; clear z3; have z3 := n_; clear n_; have n_ := pw_cell_below hb zt10; clear zt10; have zt10 := n_; clear n_; have n_ := pw_cell_below hb zt11; clear zt11; have zt11 := n_; clear n_; clear hd hb HO)))
    go_roundw
    case rel => exact ⟨j + 1, by go_num, ⟨HJL.out⟩, ⟨(Own.start W3).grow HBL.out⟩⟩
    case measure => have := HJL.out; simp [intOf]; omega
end Go.Proofs.Ytlgkeaildncojaa.Q
end
section
/- Parameters opened into kinds, whatever their type: slices, structs, numbers, nested. -/
namespace Go.Proofs.YtlgkeaildncojaaW.PrintWords
open Go.RowKit Go.ChangeShapes Go.WideShapes Go.Deep
set_option linter.unusedVariables false

/-- Whatever cells are read at type t are told by the kind d. -/
def Opn (P : Program) {α : Type} (d : Kd α) (t : TypeId) : Prop :=
  ∀ {H : Type} {enc : TypeId × Value → H} {w : World} {base fuel : Nat} {held : Bool} {cs : List Value} {x : DataW H × List MemPlace}, DataW.trod enc P w base (fun _ => true) held fuel t cs = some x → ∃ a, d.K w a cs
theorem Opn.int {P : Program} {t : TypeId} {k : IntKind} (ht : P.underlying t = some (.int k)) : Opn P (Kd.int k) t := by
  intro H enc w base fuel held cs x h
  obtain ⟨n, rfl, -, -⟩ := DataW.trod_int ht h
  exact ⟨n, rfl⟩
theorem Opn.bool {P : Program} {t : TypeId} (ht : P.underlying t = some .bool) : Opn P Kd.bool t := by
  intro H enc w base fuel held cs x h
  obtain ⟨n, rfl, -⟩ := DataW.trod_bool ht h
  exact ⟨n, rfl⟩
theorem Opn.string {P : Program} {t : TypeId} (ht : P.underlying t = some .string) : Opn P Kd.string t := by
  intro H enc w base fuel held cs x h
  obtain ⟨n, rfl, -⟩ := DataW.trod_string ht h
  exact ⟨n, rfl⟩
theorem Opn.iso {P : Program} {t : TypeId} {α β : Type} {d : Kd α} (f : β → α) (g : α → β) (hg : ∀ a, f (g a) = a) (h : Opn P d t) : Opn P (Kd.iso d f) t := by
  intro H enc w base fuel held cs x hx
  obtain ⟨a, ha⟩ := h hx
  exact ⟨g a, by show d.K w (f (g a)) cs; rw [hg]; exact ha⟩
theorem Opn.slice {P : Program} {t e : TypeId} {α : Type} {d : Kd α} (ht : P.underlying t = some (.slice e)) (he : P.cellsOf e = d.sz) (hd : Opn P d e) : Opn P (Kd.slice e d) t := by
  intro H enc w base fuel held cs x hx
  have hml : maxLen ≤ 9223372036854775807 := by decide
  rcases open_slice ht hx with ⟨rfl, -⟩ | ⟨a, len, cap, m, n, D, Pl, rfl, hb, hl, hm, hmm, -, hel⟩
  · exact ⟨[], none, 0, rfl, Nat.le_refl _, rfl, Nat.zero_le _, fun h => absurd h (Nat.lt_irrefl 0)⟩
  · simp only [if_true] at hmm
    subst hmm
    have each : ∀ i, i < len → ∃ y : List Value, ∃ z : α, w.cells? base (a.add (i * P.cellsOf e)) (P.cellsOf e) = some y ∧ d.K w z y := fun i hi => by
      obtain ⟨cs', h1, h2⟩ := hel i (by omega)
      obtain ⟨z, hz⟩ := hd h2
      exact ⟨cs', z, h1, hz⟩
    have hall : ∀ n, n ≤ len → ∃ zs : List α, zs.length = n ∧ ∀ j p, zs[j]? = some p → ∃ y, w.cells? base (a.add (j * P.cellsOf e)) (P.cellsOf e) = some y ∧ d.K w p y := by
      intro n
      induction n with
      | zero => exact fun _ => ⟨[], rfl, fun j p hj => by simp at hj⟩
      | succ n ih =>
        intro hn
        obtain ⟨zs, hl1, hz⟩ := ih (by omega)
        obtain ⟨y, z, h1, h2⟩ := each n (by omega)
        refine ⟨zs ++ [z], by simp [hl1], fun j p hj => ?_⟩
        rw [List.getElem?_append] at hj
        split at hj
        · exact hz j p hj
        · rename_i hge
          have hj0 : j = n := by
            rcases Nat.lt_or_ge n j with h3 | h3
            · rw [List.getElem?_eq_none (by simp; omega)] at hj; cases hj
            · omega
          subst hj0
          rw [hl1, Nat.sub_self] at hj
          simp only [List.getElem?_cons_zero, Option.some.injEq] at hj
          subst hj
          exact ⟨y, h1, h2⟩
    obtain ⟨zs, hzl, hz⟩ := hall len (Nat.le_refl _)
    refine ⟨zs, some a, m, by rw [hzl], by rw [hzl]; exact hl, rfl, by rw [hzl]; omega, fun _ => ⟨a, rfl, fun j p hj => ?_⟩⟩
    obtain ⟨y, h1, h2⟩ := hz j p hj
    refine ⟨y, d.K_len h2, h2, fun i u hu => ?_⟩
    obtain ⟨-, h4, h5⟩ := World.cells?_some h1
    have hi : i < P.cellsOf e := by rw [← h4]; exact (List.getElem?_eq_some_iff.mp hu).1
    have h6 := h5 i hi
    rw [hu, he, add_add] at h6
    exact h6
/-- The fields of a struct from one on. -/
def OpnF (P : Program) {α : Type} (d : Kd α) (fs : List Field) (off n : Nat) : Prop :=
  ∀ {H : Type} {enc : TypeId × Value → H} {w : World} {base fuel : Nat} {held : Bool} {cs : List Value}, cs.length = n → (∀ f ∈ fs, ∃ x, DataW.trod enc P w base (fun _ => true) held fuel f.type ((cs.drop f.offset).take (P.cellsOf f.type)) = some x) → ∃ a, d.K w a (cs.drop off)
theorem OpnF.one {P : Program} {α : Type} {d : Kd α} {f : Field} {off n : Nat} (ho : f.offset = off) (hn : off + P.cellsOf f.type = n) (h : Opn P d f.type) : OpnF P d [f] off n := by
  intro H enc w base fuel held cs hl hx
  obtain ⟨x, hx⟩ := hx f (List.mem_singleton.mpr rfl)
  rw [ho, List.take_of_length_le (by rw [List.length_drop]; omega)] at hx
  exact h hx
theorem OpnF.cons {P : Program} {α β : Type} {d : Kd α} {d2 : Kd β} {f : Field} {fs : List Field} {off m n : Nat} (ho : f.offset = off) (hn : off + P.cellsOf f.type = m) (h : Opn P d f.type) (h2 : OpnF P d2 fs m n) : OpnF P (Kd.pair d d2) (f :: fs) off n := by
  intro H enc w base fuel held cs hl hx
  obtain ⟨x, hx1⟩ := hx f List.mem_cons_self
  rw [ho] at hx1
  obtain ⟨a, ha⟩ := h hx1
  obtain ⟨b, hb⟩ := h2 hl (fun f hf => hx f (List.mem_cons_of_mem _ hf))
  refine ⟨(a, b), _, _, ?_, ha, hb⟩
  rw [← hn, ← List.drop_drop, List.take_append_drop]
theorem Opn.struct {P : Program} {t : TypeId} {α : Type} {d : Kd α} {fs : Array Field} (ht : P.underlying t = some (.struct fs)) (h : OpnF P d fs.toList 0 (P.cellsOf t)) : Opn P d t := by
  intro H enc w base fuel held cs x hx
  obtain ⟨xs, n, -, -, hl, hlen, hf⟩ := DataW.trod_struct ht hx
  refine h (fuel := n) (enc := enc) (base := base) (held := held) hl (fun f hfm => ?_)
  obtain ⟨i, hi, rfl⟩ := List.getElem_of_mem hfm
  have h1 : fs[i]? = some fs.toList[i] := by simp at hi ⊢
  rw [hf i _ h1]
  exact ⟨_, List.getElem?_eq_getElem (by rw [hlen]; simpa using hi)⟩
end Go.Proofs.YtlgkeaildncojaaW.PrintWords
namespace Go.Proofs.Ytlgkeaildncojaa.Q
end Go.Proofs.Ytlgkeaildncojaa.Q
end
section
/- A Case as a parameter. -/
namespace Go.Proofs.Ytlgkeaildncojaa.Q
open Go.RowKit Go.Proofs.YtlgkeaildncojaaW.PrintWords Go.ChangeShapes Go.WideShapes
theorem opn26 : Opn Try.prog (Kd.slice 3 (Kd.int .i64)) 26 := Opn.slice Try.underlying26 (by kernel_rfl) (Opn.int Try.underlying3)
theorem opn25 : Opn Try.prog (Kd.slice 26 (Kd.slice 3 (Kd.int .i64))) 25 := Opn.slice Try.underlying25 (by kernel_rfl) opn26
theorem opn28 : Opn Try.prog (Kd.slice 4 Kd.bool) 28 := Opn.slice Try.underlying28 (by kernel_rfl) (Opn.bool Try.underlying4)
theorem u8_wf {x : Int} (h : (Lit.int .u8 x).wf = true) : 0 ≤ x ∧ x ≤ 255 := by
  have e1 : IntKind.u8.min = 0 := by decide
  have e2 : IntKind.u8.max = 255 := by decide
  have h2 : (decide (IntKind.u8.min ≤ x) && decide (x ≤ IntKind.u8.max)) = true := h
  rw [Bool.and_eq_true, decide_eq_true_iff, decide_eq_true_iff] at h2
  omega
theorem get_lt {α : Type} {l : List α} {i n : Nat} (h : l.length = n) (hi : i < n) : ∃ x, l[i]? = some x := ⟨_, List.getElem?_eq_getElem (h.symm ▸ hi)⟩
theorem seven {α : Type} (cs : Array α) (h : cs.size = 7) : ∃ a b c d e f g, cs = #[a, b, c, d, e, f, g] := by
  match cs, h with
  | ⟨[a, b, c, d, e, f, g]⟩, _ => exact ⟨a, b, c, d, e, f, g, rfl⟩
set_option maxRecDepth 100000 in
theorem open_case {H : Type} {enc : TypeId × Value → H} {W : World} {base b0 : Nat} {held : Bool} {r : Reach} {v : Value} {d : DataW H} {ps : List MemPlace} (hval : Value.okWide Try.prog W r b0 30 v) (hd : DataW.Trod enc Try.prog W base (fun _ => true) held 30 v d ps) :
    ∃ (A0 : Option Addr) (c0 : Nat) (L : List (List Int)) (A1 : Option Addr) (c1 : Nat) (I : List Int) (o0 o1 o2 kq : Int) (A4 : Option Addr) (c4 : Nat) (M : List Bool), v = .agg #[.slice A0 L.length c0, .slice A1 I.length c1, .int .i64 o0, .int .i64 o1, .int .i64 o2, .int .u8 kq, .slice A4 M.length c4] ∧
      Kd.C (Kd.slice 3 (Kd.int .i64)) W A0 L.length L ∧ L.length ≤ c0 ∧ Kd.C (Kd.int .i64) W A1 I.length I ∧ I.length ≤ c1 ∧ Kd.C Kd.bool W A4 M.length M ∧ M.length ≤ c4 ∧ (0 ≤ kq ∧ kq ≤ 255) ∧ (IntKind.i64.min ≤ o0 ∧ o0 ≤ IntKind.i64.max) ∧ (IntKind.i64.min ≤ o1 ∧ o1 ≤ IntKind.i64.max) ∧ (IntKind.i64.min ≤ o2 ∧ o2 ≤ IntKind.i64.max) := by
  simp only [Value.okWide, Try.underlying30] at hval
  obtain ⟨cs, rfl, h2, _⟩ := hval
  obtain ⟨fuel, hf⟩ := hd
  obtain ⟨xs, n, _, _, hl, hxl, hx⟩ := DataW.trod_struct Try.underlying30 hf
  obtain ⟨y0, y1, y2, y3, y4, y5, y6, rfl⟩ := seven cs (by rw [h2]; kernel_rfl)
  have s25 : Try.prog.cellsOf 25 = 1 := by kernel_rfl
  have s26 : Try.prog.cellsOf 26 = 1 := by kernel_rfl
  have s27 : Try.prog.cellsOf 27 = 3 := by kernel_rfl
  have s28 : Try.prog.cellsOf 28 = 1 := by kernel_rfl
  have s5 : Try.prog.cellsOf 5 = 1 := by kernel_rfl
  have s3 : Try.prog.cellsOf 3 = 1 := by kernel_rfl
  obtain ⟨z0, e0⟩ := get_lt hxl (show 0 < 5 by decide)
  obtain ⟨z1, e1⟩ := get_lt hxl (show 1 < 5 by decide)
  obtain ⟨z2, e2⟩ := get_lt hxl (show 2 < 5 by decide)
  obtain ⟨z3, e3⟩ := get_lt hxl (show 3 < 5 by decide)
  obtain ⟨z4, e4⟩ := get_lt hxl (show 4 < 5 by decide)
  have f0 : DataW.trod enc Try.prog W base (fun _ => true) held n 25 (([y0, y1, y2, y3, y4, y5, y6].drop 0).take (Try.prog.cellsOf 25)) = some z0 := (hx 0 _ rfl).trans e0
  have f1 : DataW.trod enc Try.prog W base (fun _ => true) held n 26 (([y0, y1, y2, y3, y4, y5, y6].drop 1).take (Try.prog.cellsOf 26)) = some z1 := (hx 1 _ rfl).trans e1
  have f2 : DataW.trod enc Try.prog W base (fun _ => true) held n 27 (([y0, y1, y2, y3, y4, y5, y6].drop 2).take (Try.prog.cellsOf 27)) = some z2 := (hx 2 _ rfl).trans e2
  have f3 : DataW.trod enc Try.prog W base (fun _ => true) held n 5 (([y0, y1, y2, y3, y4, y5, y6].drop 5).take (Try.prog.cellsOf 5)) = some z3 := (hx 3 _ rfl).trans e3
  have f4 : DataW.trod enc Try.prog W base (fun _ => true) held n 28 (([y0, y1, y2, y3, y4, y5, y6].drop 6).take (Try.prog.cellsOf 28)) = some z4 := (hx 4 _ rfl).trans e4
  rw [s25] at f0
  rw [s26] at f1
  rw [s27] at f2
  rw [s5] at f3
  rw [s28] at f4
  obtain ⟨L, A0, c0, q0, l0, g0⟩ := opn25 f0
  obtain ⟨I, A1, c1, q1, l1, g1⟩ := opn26 f1
  obtain ⟨xs2, n2, _, _, hl2, hxl2, hx2⟩ := DataW.trod_array Try.underlying27 f2
  rw [s3] at hx2
  obtain ⟨u0, k0⟩ := get_lt hxl2 (show 0 < 3 by decide)
  obtain ⟨u1, k1⟩ := get_lt hxl2 (show 1 < 3 by decide)
  obtain ⟨u2, k2⟩ := get_lt hxl2 (show 2 < 3 by decide)
  obtain ⟨o0, p0, _, w0⟩ := DataW.trod_int Try.underlying3 ((hx2 0 (by decide)).trans k0)
  obtain ⟨o1, p1, _, w1⟩ := DataW.trod_int Try.underlying3 ((hx2 1 (by decide)).trans k1)
  obtain ⟨o2, p2, _, w2⟩ := DataW.trod_int Try.underlying3 ((hx2 2 (by decide)).trans k2)
  obtain ⟨kq, q3, _, w3⟩ := DataW.trod_int Try.underlying5 f3
  obtain ⟨M, A4, c4, q4, l4, g4⟩ := opn28 f4
  simp [Value.cells] at q0 q1 q3 q4 p0 p1 p2
  subst q0 q1 q3 q4 p0 p1 p2
  have rng : ∀ {x : Int}, (Lit.int .i64 x).wf = true → IntKind.i64.min ≤ x ∧ x ≤ IntKind.i64.max := fun h => by
    have h2 : (decide (IntKind.i64.min ≤ _) && decide (_ ≤ IntKind.i64.max)) = true := h
    rw [Bool.and_eq_true, decide_eq_true_iff, decide_eq_true_iff] at h2
    exact h2
  exact ⟨A0, c0, L, A1, c1, I, o0, o1, o2, kq, A4, c4, M, rfl, g0, l0, g1, l1, g4, l4, u8_wf w3, rng w0, rng w1, rng w2⟩
end Go.Proofs.Ytlgkeaildncojaa.Q
end

-- Written by wip/tools/myprint.py, a program of this session that drives the kit's print.py; not a text of print.sh.
import Derived.Test.YthllgpjjjegenaaQx0
import Derived.Test.YthllgpjjjegenaaQx7
namespace Go.Proofs.Ythllgpjjjegenaa.Q
open Go.RowKit Go.Proofs.YthllgpjjjegenaaW.PrintWords Go.Proofs.YthllgpjjjegenaaW.PrintLast Go.Proofs.YthllgpjjjegenaaW.PrintMore
attribute [local go_sem] max2_int min2_int max_two min_two max_three min_three max_four min_four   -- for this text's walks alone
set_option linter.unusedVariables false
set_option linter.unusedSimpArgs false

/-! ### abugidaref05_Text: function 10 -/
mutual
def abugidaref05_Text.l0 : Nat → List Int → Int → List Int → Int → Option (ByteArray)
  | 0, _, _, _, _ => none
  | k + 1, x0, x1, x5, x6 => if x6 < (x0.length : Int) then (abugidaref05_Text.j1 k x0 x1 x5 x6 (decide (x6 < x1))) else (abugidaref05_Text.j1 k x0 x1 x5 x6 false)
def abugidaref05_Text.j1 : Nat → List Int → Int → List Int → Int → Bool → Option (ByteArray)
  | 0, _, _, _, _, _ => none
  | k + 1, x0, x1, x5, x6, x17 => if x17 = true then (if 0 ≤ x6 then (if x6 < (x0.length : Int) then (if (rd x0 x6) < 0 then ((abugidaref05_pools.f (Int.tmod (wrap64 (-(wrap64 ((rd x0 x6) + 1)))) 8)).bind fun t266 => (if (t266.size : Int) = 0 then (none) else (if 0 ≤ (Int.tmod (wrap64 (Int.tdiv (wrap64 (-(wrap64 ((rd x0 x6) + 1)))) 8)) (t266.size : Int)) then (if (Int.tmod (wrap64 (Int.tdiv (wrap64 (-(wrap64 ((rd x0 x6) + 1)))) 8)) (t266.size : Int)) < (t266.size : Int) then (if x5.length < 140737488355328 then (abugidaref05_Text.l0 k x0 x1 (x5 ++ [bt t266 (Int.tmod (wrap64 (Int.tdiv (wrap64 (-(wrap64 ((rd x0 x6) + 1)))) 8)) (t266.size : Int))]) (wrap64 (x6 + 1))) else (none)) else (none)) else (none)))) else ((abugidaref05_pools.f (Int.tmod (rd x0 x6) 8)).bind fun t270 => (if (t270.size : Int) = 0 then (none) else (if 0 ≤ (Int.tmod (wrap64 (Int.tdiv (rd x0 x6) 8)) (t270.size : Int)) then (if (Int.tmod (wrap64 (Int.tdiv (rd x0 x6) 8)) (t270.size : Int)) < (t270.size : Int) then (if x5.length < 140737488355328 then (abugidaref05_Text.l0 k x0 x1 (x5 ++ [bt t270 (Int.tmod (wrap64 (Int.tdiv (rd x0 x6) 8)) (t270.size : Int))]) (wrap64 (x6 + 1))) else (none)) else (none)) else (none))))) else (none)) else (none)) else (some (strOfNums x5))
end
def abugidaref05_Text.f (k : Nat) (l0 : List Int) (a1 : Int) : Option (ByteArray) := abugidaref05_Text.l0 k l0 a1 ([] : List Int) 0
theorem abugidaref05_Text.mono_l : ∀ k, (∀ y0 y1 y2 y3, LeO (abugidaref05_Text.l0 k y0 y1 y2 y3) (abugidaref05_Text.l0 (k + 1) y0 y1 y2 y3)) ∧ (∀ y0 y1 y2 y3 y4, LeO (abugidaref05_Text.j1 k y0 y1 y2 y3 y4) (abugidaref05_Text.j1 (k + 1) y0 y1 y2 y3 y4))
  | 0 => ⟨fun _ _ _ _ r h => by simp [abugidaref05_Text.l0] at h, fun _ _ _ _ _ r h => by simp [abugidaref05_Text.j1] at h⟩
  | k + 1 => by
    obtain ⟨ih0, ih1⟩ := abugidaref05_Text.mono_l k
    refine ⟨?_, ?_⟩
    · intro y0 y1 y2 y3
      unfold abugidaref05_Text.l0
      repeat' first
      | (with_reducible exact ih0 _ _ _ _)
      | (with_reducible exact ih1 _ _ _ _ _)
      | (with_reducible exact LeO.refl _)
      | (with_reducible exact LeO.none _)
      | (with_reducible refine LeO.ite ?_ ?_)
      | (with_reducible refine LeO.bind ?_ (fun _ => ?_))
      | exact ih0 _ _ _ _
      | exact ih1 _ _ _ _ _
      | exact LeO.none _
      | refine LeO.ite ?_ ?_
      | refine LeO.bind ?_ (fun _ => ?_)
    · intro y0 y1 y2 y3 y4
      unfold abugidaref05_Text.j1
      repeat' first
      | (with_reducible exact ih0 _ _ _ _)
      | (with_reducible exact ih1 _ _ _ _ _)
      | (with_reducible exact LeO.refl _)
      | (with_reducible exact LeO.none _)
      | (with_reducible refine LeO.ite ?_ ?_)
      | (with_reducible refine LeO.bind ?_ (fun _ => ?_))
      | exact ih0 _ _ _ _
      | exact ih1 _ _ _ _ _
      | exact LeO.none _
      | refine LeO.ite ?_ ?_
      | refine LeO.bind ?_ (fun _ => ?_)
theorem abugidaref05_Text.mono : ∀ a0 a1 k, LeO (abugidaref05_Text.f k a0 a1) (abugidaref05_Text.f (k + 1) a0 a1) := by
  intro a0 a1 k
  obtain ⟨ih0, ih1⟩ := abugidaref05_Text.mono_l k
  unfold abugidaref05_Text.f
  repeat' first
      | (with_reducible exact ih0 _ _ _ _)
      | (with_reducible exact ih1 _ _ _ _ _)
      | (with_reducible exact LeO.refl _)
      | (with_reducible exact LeO.none _)
      | (with_reducible refine LeO.ite ?_ ?_)
      | (with_reducible refine LeO.bind ?_ (fun _ => ?_))
      | exact ih0 _ _ _ _
      | exact ih1 _ _ _ _ _
      | exact LeO.none _
      | refine LeO.ite ?_ ?_
      | refine LeO.bind ?_ (fun _ => ?_)
set_option maxHeartbeats 8000000 in
set_option maxRecDepth 100000 in
theorem abugidaref05_Text.calls (k : Nat) (A0 : Option Addr) (c0 : Nat) (l0 : List Int) (a1 : Int) (r : ByteArray) (w : World) (hr0 : Kd.C (Kd.int .i64) w A0 l0.length l0) (hc0 : l0.length ≤ c0) (h : abugidaref05_Text.f k l0 a1 = some r) :
    Calls Try.prog 10 #[.slice A0 l0.length c0, .int .i64 a1] w fun e w' => e = .returned (.string r) ∧ Below w.heap.size w w' := by
  have HR0 := Aside0.mk hr0
  have HC0 := Aside0.mk hc0
  clear hr0 hc0
  have HB := Aside0.mk (Below.refl w.heap.size w)
  have H : (abugidaref05_Text.l0 k l0 a1 ([] : List Int) 0) = some r := h
  clear h
  have H' := Aside0.mk H
  clear H
  go_enter Try.func10, Try.ntmps10
  go_wp2
  go_loopg [5, 6] k (fun kq v5 v6 w' => ∃ (x5_1 : List Int) (x6_1 : Int), v6 = .int .i64 x6_1 ∧ Aside0 (abugidaref05_Text.l0 kq l0 a1 x5_1 x6_1 = some r) ∧ Aside0 (kq ≤ k) ∧ Aside0 (Kd.R (Kd.int .u8) 5 w' w.heap.size (fun _ => True) v5 x5_1) ∧ Aside0 (Below w.heap.size w w'))
  case atStart => exact ⟨(([] : List Int)), (0), (by first | rfl | (simp; done) | (simp [*]; done)), H', ⟨Nat.le_refl _⟩, ⟨by first | exact Kd.R_nil _ _ _ _ _ | exact Kd.N_nil _ _ _ _ _ | exact Kd.V_nil _ _ _ _ _ | exact Kd.Q_nil _ _ _ _ _ | exact Kd.S_nil _ _ _ _ _⟩, ⟨by repeat (first | (with_reducible first | exact HB.out | apply below_alloc | apply pw_below_drewN | apply below_drew1) | exact HB.out)⟩⟩
  case round =>
    clear H'
    try clear c1
    try clear p2
    obtain ⟨x5_1, x6_1, rfl, HA, HK1, HO_5, HB⟩ := hrel
    cases gk with
    | zero => exact absurd HA.out (by simp [abugidaref05_Text.l0])
    | succ k1 =>
      have H := HA.out
      clear HA
      simp only [abugidaref05_Text.l0] at H
      have HC3 := Aside0.mk H
      clear H
      go_upto_region 3 with (fail)
      go_cut [17] (fun v17 wc => ∃ (kq : Nat) (x17_2 : Bool), v17 = .bool x17_2 ∧ Aside0 (abugidaref05_Text.j1 kq l0 a1 x5_1 x6_1 x17_2 = some r) ∧ Aside0 (kq ≤ k1) ∧ Aside0 (Kd.R (Kd.int .u8) 5 wc w.heap.size (fun _ => True) u5 x5_1) ∧ Aside0 (Below w.heap.size w wc))
      case first =>
        have H := HC3.out
        clear HC3
        by_cases c4 : x6_1 < (l0.length : Int)
        · rw [if_pos c4] at H
          have c4b0 : decide (x6_1 < (l0.length : Int)) = true := decide_eq_true c4
          clear c4
          (first | rw [c4b0] | (simp only [i64_w, i32_w]; rw [c4b0]) | skip)
          have H' := Aside0.mk H
          clear H
          go_wp2
          go_meet
          case rel => exact ⟨_, (decide (x6_1 < a1)), (by first | rfl | (simp; done) | (simp [*]; done)), H', ⟨by have := HK1.out; first | omega | exact Nat.le_refl _⟩, ⟨by (with_reducible repeat (first | apply Kd.R_alloc | apply Kd.R_drewN | apply Kd.R_drew)); exact HO_5.out⟩, ⟨by repeat (first | (with_reducible first | exact HB.out | apply below_alloc | apply pw_below_drewN | apply below_drew1) | exact HB.out)⟩⟩
        · rw [if_neg c4] at H
          have c4b0 : decide (x6_1 < (l0.length : Int)) = false := decide_eq_false c4
          clear c4
          (first | rw [c4b0] | (simp only [i64_w, i32_w]; rw [c4b0]) | skip)
          have H' := Aside0.mk H
          clear H
          go_wp2
          go_meet
          case rel => exact ⟨_, (false), (by first | rfl | (simp; done) | (simp [*]; done)), H', ⟨by have := HK1.out; first | omega | exact Nat.le_refl _⟩, ⟨by (with_reducible repeat (first | apply Kd.R_alloc | apply Kd.R_drewN | apply Kd.R_drew)); exact HO_5.out⟩, ⟨by repeat (first | (with_reducible first | exact HB.out | apply below_alloc | apply pw_below_drewN | apply below_drew1) | exact HB.out)⟩⟩
      case rest =>
        clear HC3
        try clear c1
        try clear p2
        try clear c4
        try clear c4b0
        try clear p2
        obtain ⟨kq, x17_2, rfl, HA, HJ2, HO_5, HB⟩ := hcut
        cases kq with
        | zero => exact absurd HA.out (by simp [abugidaref05_Text.j1])
        | succ kj2 =>
          have H := HA.out
          clear HA
          simp only [abugidaref05_Text.j1] at H
          by_cases c5 : x17_2 = true
          · subst c5
            have H1 : (if 0 ≤ x6_1 then (if x6_1 < (l0.length : Int) then (if (rd l0 x6_1) < 0 then ((abugidaref05_pools.f (Int.tmod (wrap64 (-(wrap64 ((rd l0 x6_1) + 1)))) 8)).bind fun t266 => (if (t266.size : Int) = 0 then (none) else (if 0 ≤ (Int.tmod (wrap64 (Int.tdiv (wrap64 (-(wrap64 ((rd l0 x6_1) + 1)))) 8)) (t266.size : Int)) then (if (Int.tmod (wrap64 (Int.tdiv (wrap64 (-(wrap64 ((rd l0 x6_1) + 1)))) 8)) (t266.size : Int)) < (t266.size : Int) then (if x5_1.length < 140737488355328 then (abugidaref05_Text.l0 kj2 l0 a1 (x5_1 ++ [bt t266 (Int.tmod (wrap64 (Int.tdiv (wrap64 (-(wrap64 ((rd l0 x6_1) + 1)))) 8)) (t266.size : Int))]) (wrap64 (x6_1 + 1))) else (none)) else (none)) else (none)))) else ((abugidaref05_pools.f (Int.tmod (rd l0 x6_1) 8)).bind fun t270 => (if (t270.size : Int) = 0 then (none) else (if 0 ≤ (Int.tmod (wrap64 (Int.tdiv (rd l0 x6_1) 8)) (t270.size : Int)) then (if (Int.tmod (wrap64 (Int.tdiv (rd l0 x6_1) 8)) (t270.size : Int)) < (t270.size : Int) then (if x5_1.length < 140737488355328 then (abugidaref05_Text.l0 kj2 l0 a1 (x5_1 ++ [bt t270 (Int.tmod (wrap64 (Int.tdiv (rd l0 x6_1) 8)) (t270.size : Int))]) (wrap64 (x6_1 + 1))) else (none)) else (none)) else (none))))) else (none)) else (none)) = some r := by rw [if_pos rfl] at H; exact H
            clear H
            have H := H1
            clear H1
            by_cases c6 : 0 ≤ x6_1
            · rw [if_pos c6] at H
              have c6b0 : decide (0 ≤ x6_1) = true := decide_eq_true c6
              clear c6
              by_cases c7 : x6_1 < (l0.length : Int)
              · rw [if_pos c7] at H
                have c7b0 : decide (x6_1 < (l0.length : Int)) = true := decide_eq_true c7
                clear c7
                by_cases c8 : (rd l0 x6_1) < 0
                · rw [if_pos c8] at H
                  have c8b0 : decide ((rd l0 x6_1) < 0) = true := decide_eq_true c8
                  clear c8
                  replace H := Option.bind_eq_some_iff.mp H
                  obtain ⟨t266, A90, H⟩ := H
                  replace H : (if (t266.size : Int) = 0 then (none) else (if 0 ≤ (Int.tmod (wrap64 (Int.tdiv (wrap64 (-(wrap64 ((rd l0 x6_1) + 1)))) 8)) (t266.size : Int)) then (if (Int.tmod (wrap64 (Int.tdiv (wrap64 (-(wrap64 ((rd l0 x6_1) + 1)))) 8)) (t266.size : Int)) < (t266.size : Int) then (if x5_1.length < 140737488355328 then (abugidaref05_Text.l0 kj2 l0 a1 (x5_1 ++ [bt t266 (Int.tmod (wrap64 (Int.tdiv (wrap64 (-(wrap64 ((rd l0 x6_1) + 1)))) 8)) (t266.size : Int))]) (wrap64 (x6_1 + 1))) else (none)) else (none)) else (none))) = some r := H
                  have A9 := Aside0.mk A90
                  clear A90
                  by_cases c10 : (t266.size : Int) = 0
                  · rw [if_pos c10] at H
                    exact absurd H (by simp)
                  · rw [if_neg c10] at H
                    have c10b0 : ((t266.size : Int) == 0) = false := beq_eq_false_iff_ne.mpr c10
                    have c10b1 : ((t266.size : Int) != 0) = true := bne_iff_ne.mpr c10
                    obtain ⟨ji11, hji11⟩ : ∃ j_ : Int, (Int.tmod (wrap64 (Int.tdiv (wrap64 (-(wrap64 ((rd l0 x6_1) + 1)))) 8)) (t266.size : Int)) = j_ := ⟨_, rfl⟩
                    replace H : (if 0 ≤ (ji11) then (if (ji11) < (t266.size : Int) then (if x5_1.length < 140737488355328 then (abugidaref05_Text.l0 kj2 l0 a1 (x5_1 ++ [bt t266 (ji11)]) (wrap64 (x6_1 + 1))) else (none)) else (none)) else (none)) = some r := by first | (rw [hji11] at H; exact H) | (simp only [hji11] at H ⊢; exact H)
                    (try rw [hji11] at A9)
                    by_cases c12 : 0 ≤ (ji11)
                    · rw [if_pos c12] at H
                      have c12b0 : decide (0 ≤ (ji11)) = true := decide_eq_true c12
                      clear c12
                      by_cases c13 : (ji11) < (t266.size : Int)
                      · rw [if_pos c13] at H
                        have c13b0 : decide ((ji11) < (t266.size : Int)) = true := decide_eq_true c13
                        clear c13
                        by_cases c15 : x5_1.length < 140737488355328
                        · rw [if_pos c15] at H
                          have LMc15 := Aside0.mk c15
                          clear c15
                          obtain ⟨y267, hy267⟩ : ∃ y_ : List Int, y_ = (x5_1 ++ [bt t266 (ji11)]) := ⟨_, rfl⟩
                          replace H : (abugidaref05_Text.l0 kj2 l0 a1 y267 (wrap64 (x6_1 + 1))) = some r := by first | (rw [hy267]; with_reducible exact H) | (have H2_ := (Option.bind_some _ _).symm.trans H; rw [hy267]; with_reducible exact H2_) | (have H2_ := (Option.bind_some _ _).symm.trans H; with_reducible exact H2_) | with_reducible exact H | (rw [hy267]; exact H) | exact H
                          have Ny267 := Aside0.mk hy267
                          clear hy267
                          have H' := Aside0.mk H
                          clear H
                          have p265 : 0 ≤ (x6_1 : Int) := of_decide_eq_true (by first | (with_reducible assumption) | assumption)
                          have q265 : x6_1 < (l0.length : Int) := of_decide_eq_true (by first | (with_reducible assumption) | assumption)
                          obtain ⟨ad265, e265, hx265_0⟩ := Kd.at_int HR0.out x6_1 p265 q265
                          cases e265
                          replace hx265_0 := (HB.out.cell (World.block_lt_of_cell? w _ hx265_0)).trans hx265_0
                          replace p265 := eq_true p265
                          replace q265 := eq_true q265
                          go_wp2_with (first | ((with_reducible refine gate_callee (f := 22) rfl ?_); refine goesL_ (some 31) rfl rfl Try.func22 (by kernel_rfl) rfl #[.int .i64 (Int.tmod (wrap64 (-(wrap64 ((rd l0 x6_1) + 1)))) 8)] rfl (by (try simp only [List.map_toArray, List.map_cons, List.map_nil]); first | done | rfl | (simp only [List.length_drop, List.length_take]; rfl)) ?_; (with_reducible refine (abugidaref05_pools.calls (Int.tmod (wrap64 (-(wrap64 ((rd l0 x6_1) + 1)))) 8) t266 _ A9.out).mono ?_); rintro e w16 ⟨rfl, hb⟩; refine ⟨_, rfl, ?_⟩; have n0_ := Aside0.mk (Kd.R_below (by (with_reducible repeat (first | apply Kd.R_alloc | apply Kd.R_drewN | apply Kd.R_drew)); exact HO_5.out) hb); have n1_ := Aside0.mk (below_step (by repeat (first | (with_reducible first | exact HB.out | apply below_alloc | apply pw_below_drewN | apply below_drew1) | exact HB.out)) hb); clear HO_5; clear HB; have HO_5 := n0_; have HB := n1_; clear n0_ n1_; (try clear hb); (try clear hb2); (try clear hk); (try clear hi); have p14 : 0 ≤ ((ji11) : Int) := of_decide_eq_true (by first | (with_reducible assumption) | assumption); have q14 : (ji11) < (t266.size : Int) := of_decide_eq_true (by first | (with_reducible assumption) | assumption); have hx14 := bt_at t266 (ji11); replace p14 := eq_true p14; replace q14 := eq_true q14) | ((with_reducible refine gate_builtin (b := .append) (xs := #[.tmp 32, .tmp 40]) rfl ?_); at_builtin; refine Kd.R_append (Kd.int .u8) (w0 := w) w.heap.size rfl (.tmp 32) (.tmp 40) 48 5 (.int .u8 0) 1 rfl Try.underlying48 info5 rfl (by decide) (by omega) u5 x5_1 (bt t266 (ji11)) [.int .u8 (bt t266 (ji11))] (fun _ => True) (fun _ => False) rfl rfl ?aP (fun _ hk => hk.elim) ?aF ?aO ?aB ?aS ?aL ?_; (case aP => exact rfl); (case aB => exact (by repeat (first | (with_reducible first | exact HB.out | apply below_alloc | apply pw_below_drewN | apply below_drew1) | exact HB.out))); (case aF => exact (fun _ _ => trivial)); (case aO => exact (by (with_reducible repeat (first | apply Kd.R_alloc | apply Kd.R_drewN | apply Kd.R_drew)); exact HO_5.out)); (case aS => exact (below_size (by repeat (first | (with_reducible first | exact HB.out | apply below_alloc | apply pw_below_drewN | apply below_drew1) | exact HB.out)))); (case aL => have := LMc15.out; omega); intro v268 w17 ho hb hg hat; rw [← Ny267.out] at ho; have n0_ := Aside0.mk (hb); have n1_ := Aside0.mk (ho); clear HB; clear HO_5; have HB := n0_; have HO269 := n1_; clear n0_ n1_; clear ho hb hg hat))
                          go_roundg kj2
                          case measure => have := HK1.out; have := HJ2.out; omega
                          case rel => exact ⟨(y267), (wrap64 (x6_1 + 1)), (by first | rfl | (simp; done) | (simp [*]; done)), H', ⟨by have := HK1.out; have := HJ2.out; omega⟩, ⟨by (with_reducible repeat (first | apply Kd.R_alloc | apply Kd.R_drewN | apply Kd.R_drew)); exact HO269.out⟩, ⟨by repeat (first | (with_reducible first | exact HB.out | apply below_alloc | apply pw_below_drewN | apply below_drew1) | exact HB.out)⟩⟩
                        · rw [if_neg c15] at H
                          exact absurd H (by simp)
                      · rw [if_neg c13] at H
                        exact absurd H (by simp)
                    · rw [if_neg c12] at H
                      exact absurd H (by simp)
                · rw [if_neg c8] at H
                  have c8b0 : decide ((rd l0 x6_1) < 0) = false := decide_eq_false c8
                  clear c8
                  replace H := Option.bind_eq_some_iff.mp H
                  obtain ⟨t270, A180, H⟩ := H
                  replace H : (if (t270.size : Int) = 0 then (none) else (if 0 ≤ (Int.tmod (wrap64 (Int.tdiv (rd l0 x6_1) 8)) (t270.size : Int)) then (if (Int.tmod (wrap64 (Int.tdiv (rd l0 x6_1) 8)) (t270.size : Int)) < (t270.size : Int) then (if x5_1.length < 140737488355328 then (abugidaref05_Text.l0 kj2 l0 a1 (x5_1 ++ [bt t270 (Int.tmod (wrap64 (Int.tdiv (rd l0 x6_1) 8)) (t270.size : Int))]) (wrap64 (x6_1 + 1))) else (none)) else (none)) else (none))) = some r := H
                  have A18 := Aside0.mk A180
                  clear A180
                  by_cases c19 : (t270.size : Int) = 0
                  · rw [if_pos c19] at H
                    exact absurd H (by simp)
                  · rw [if_neg c19] at H
                    have c19b0 : ((t270.size : Int) == 0) = false := beq_eq_false_iff_ne.mpr c19
                    have c19b1 : ((t270.size : Int) != 0) = true := bne_iff_ne.mpr c19
                    obtain ⟨ji20, hji20⟩ : ∃ j_ : Int, (Int.tmod (wrap64 (Int.tdiv (rd l0 x6_1) 8)) (t270.size : Int)) = j_ := ⟨_, rfl⟩
                    replace H : (if 0 ≤ (ji20) then (if (ji20) < (t270.size : Int) then (if x5_1.length < 140737488355328 then (abugidaref05_Text.l0 kj2 l0 a1 (x5_1 ++ [bt t270 (ji20)]) (wrap64 (x6_1 + 1))) else (none)) else (none)) else (none)) = some r := by first | (rw [hji20] at H; exact H) | (simp only [hji20] at H ⊢; exact H)
                    (try rw [hji20] at A18)
                    by_cases c21 : 0 ≤ (ji20)
                    · rw [if_pos c21] at H
                      have c21b0 : decide (0 ≤ (ji20)) = true := decide_eq_true c21
                      clear c21
                      by_cases c22 : (ji20) < (t270.size : Int)
                      · rw [if_pos c22] at H
                        have c22b0 : decide ((ji20) < (t270.size : Int)) = true := decide_eq_true c22
                        clear c22
                        by_cases c24 : x5_1.length < 140737488355328
                        · rw [if_pos c24] at H
                          have LMc24 := Aside0.mk c24
                          clear c24
                          obtain ⟨y271, hy271⟩ : ∃ y_ : List Int, y_ = (x5_1 ++ [bt t270 (ji20)]) := ⟨_, rfl⟩
                          replace H : (abugidaref05_Text.l0 kj2 l0 a1 y271 (wrap64 (x6_1 + 1))) = some r := by first | (rw [hy271]; with_reducible exact H) | (have H2_ := (Option.bind_some _ _).symm.trans H; rw [hy271]; with_reducible exact H2_) | (have H2_ := (Option.bind_some _ _).symm.trans H; with_reducible exact H2_) | with_reducible exact H | (rw [hy271]; exact H) | exact H
                          have Ny271 := Aside0.mk hy271
                          clear hy271
                          have H' := Aside0.mk H
                          clear H
                          have p265 : 0 ≤ (x6_1 : Int) := of_decide_eq_true (by first | (with_reducible assumption) | assumption)
                          have q265 : x6_1 < (l0.length : Int) := of_decide_eq_true (by first | (with_reducible assumption) | assumption)
                          obtain ⟨ad265, e265, hx265_0⟩ := Kd.at_int HR0.out x6_1 p265 q265
                          cases e265
                          replace hx265_0 := (HB.out.cell (World.block_lt_of_cell? w _ hx265_0)).trans hx265_0
                          replace p265 := eq_true p265
                          replace q265 := eq_true q265
                          go_wp2_with (first | ((with_reducible refine gate_callee (f := 22) rfl ?_); refine goesL_ (some 31) rfl rfl Try.func22 (by kernel_rfl) rfl #[.int .i64 (Int.tmod (rd l0 x6_1) 8)] rfl (by (try simp only [List.map_toArray, List.map_cons, List.map_nil]); first | done | rfl | (simp only [List.length_drop, List.length_take]; rfl)) ?_; (with_reducible refine (abugidaref05_pools.calls (Int.tmod (rd l0 x6_1) 8) t270 _ A18.out).mono ?_); rintro e w25 ⟨rfl, hb⟩; refine ⟨_, rfl, ?_⟩; have n0_ := Aside0.mk (Kd.R_below (by (with_reducible repeat (first | apply Kd.R_alloc | apply Kd.R_drewN | apply Kd.R_drew)); exact HO_5.out) hb); have n1_ := Aside0.mk (below_step (by repeat (first | (with_reducible first | exact HB.out | apply below_alloc | apply pw_below_drewN | apply below_drew1) | exact HB.out)) hb); clear HO_5; clear HB; have HO_5 := n0_; have HB := n1_; clear n0_ n1_; (try clear hb); (try clear hb2); (try clear hk); (try clear hi); have p23 : 0 ≤ ((ji20) : Int) := of_decide_eq_true (by first | (with_reducible assumption) | assumption); have q23 : (ji20) < (t270.size : Int) := of_decide_eq_true (by first | (with_reducible assumption) | assumption); have hx23 := bt_at t270 (ji20); replace p23 := eq_true p23; replace q23 := eq_true q23) | ((with_reducible refine gate_builtin (b := .append) (xs := #[.tmp 32, .tmp 40]) rfl ?_); at_builtin; refine Kd.R_append (Kd.int .u8) (w0 := w) w.heap.size rfl (.tmp 32) (.tmp 40) 48 5 (.int .u8 0) 1 rfl Try.underlying48 info5 rfl (by decide) (by omega) u5 x5_1 (bt t270 (ji20)) [.int .u8 (bt t270 (ji20))] (fun _ => True) (fun _ => False) rfl rfl ?aP (fun _ hk => hk.elim) ?aF ?aO ?aB ?aS ?aL ?_; (case aP => exact rfl); (case aB => exact (by repeat (first | (with_reducible first | exact HB.out | apply below_alloc | apply pw_below_drewN | apply below_drew1) | exact HB.out))); (case aF => exact (fun _ _ => trivial)); (case aO => exact (by (with_reducible repeat (first | apply Kd.R_alloc | apply Kd.R_drewN | apply Kd.R_drew)); exact HO_5.out)); (case aS => exact (below_size (by repeat (first | (with_reducible first | exact HB.out | apply below_alloc | apply pw_below_drewN | apply below_drew1) | exact HB.out)))); (case aL => have := LMc24.out; omega); intro v272 w26 ho hb hg hat; rw [← Ny271.out] at ho; have n0_ := Aside0.mk (hb); have n1_ := Aside0.mk (ho); clear HB; clear HO_5; have HB := n0_; have HO273 := n1_; clear n0_ n1_; clear ho hb hg hat))
                          go_roundg kj2
                          case measure => have := HK1.out; have := HJ2.out; omega
                          case rel => exact ⟨(y271), (wrap64 (x6_1 + 1)), (by first | rfl | (simp; done) | (simp [*]; done)), H', ⟨by have := HK1.out; have := HJ2.out; omega⟩, ⟨by (with_reducible repeat (first | apply Kd.R_alloc | apply Kd.R_drewN | apply Kd.R_drew)); exact HO273.out⟩, ⟨by repeat (first | (with_reducible first | exact HB.out | apply below_alloc | apply pw_below_drewN | apply below_drew1) | exact HB.out)⟩⟩
                        · rw [if_neg c24] at H
                          exact absurd H (by simp)
                      · rw [if_neg c22] at H
                        exact absurd H (by simp)
                    · rw [if_neg c21] at H
                      exact absurd H (by simp)
              · rw [if_neg c7] at H
                exact absurd H (by simp)
            · rw [if_neg c6] at H
              exact absurd H (by simp)
          · replace c5 := Bool.eq_false_iff.mpr c5
            subst c5
            have H1 : (some (strOfNums x5_1)) = some r := by rw [if_neg (show ¬ (false = true) by decide)] at H; exact H
            clear H
            have H := H1
            clear H1
            obtain rfl := Option.some.inj H
            have hcv27 := own_string (P := Try.prog) Try.underlying48 Try.underlying5 Try.underlying9 (Kd.own_of_R HO_5.out)
            go_wp2
            go_ret
            exact ⟨by first | rfl | (simp [errW_none, errW_some] <;> rfl) | (simp [*, errW_none, errW_some] <;> rfl), by repeat (first | (with_reducible first | exact HB.out | apply below_alloc | apply pw_below_drewN | apply below_drew1) | exact HB.out)⟩

/-! ### abugidaref05_within: function 45 -/
def abugidaref05_within.f (a0 : Int) (a1 : Int) (a2 : Int) : Option (Bool) := if a0 ≥ a1 then (some (decide (a0 ≤ a2))) else (some false)
set_option maxHeartbeats 8000000 in
set_option maxRecDepth 100000 in
theorem abugidaref05_within.calls (a0 : Int) (a1 : Int) (a2 : Int) (r : Bool) (w : World) (h : abugidaref05_within.f a0 a1 a2 = some r) :
    Calls Try.prog 45 #[.int .i64 a0, .int .i64 a1, .int .i64 a2] w fun e w' => e = .returned (.bool r) ∧ Drawn0 w w' := by
  have H : (if a0 ≥ a1 then (some (decide (a0 ≤ a2))) else (some false)) = some r := h
  clear h
  by_cases c4 : a0 ≥ a1
  · rw [if_pos c4] at H
    have c4b0 : decide (a1 ≤ a0) = true := decide_eq_true c4
    clear c4
    obtain rfl := Option.some.inj H
    go_enter Try.func45, Try.ntmps45
    go_wp2
    go_ret
    exact ⟨by first | rfl | (simp; done) | (simp [*]; done), by repeat (first | exact Drawn0.refl _ | apply Drawn0.step)⟩
  · rw [if_neg c4] at H
    have c4b0 : decide (a1 ≤ a0) = false := decide_eq_false c4
    clear c4
    obtain rfl := Option.some.inj H
    go_enter Try.func45, Try.ntmps45
    go_wp2
    go_ret
    exact ⟨by first | rfl | (simp; done) | (simp [*]; done), by repeat (first | exact Drawn0.refl _ | apply Drawn0.step)⟩

/-! ### abugidaref05_Class: function 39 -/
def abugidaref05_Class.j0 : Nat → Int → Bool → Option (Int)
  | 0, _, _ => none
  | k + 1, x0, x18 => if x18 = true then (some 6) else ((abugidaref05_within.f x0 104 127).bind fun t280 => (if t280 = true then (some 7) else ((abugidaref05_within.f x0 128 143).bind fun t281 => (if t281 = true then (some 8) else ((abugidaref05_within.f x0 152 183).bind fun t282 => (if t282 = true then (some 9) else (if x0 = 184 then (some 10) else ((abugidaref05_within.f x0 185 191).bind fun t283 => (if t283 = true then (some 11) else ((abugidaref05_within.f x0 192 199).bind fun t284 => (if t284 = true then (some 12) else (if x0 = 240 then (some 13) else (if x0 = 241 then (some 14) else (some 0))))))))))))))
def abugidaref05_Class.f (k : Nat) (a0 : Int) : Option (Int) := if a0 = 10 then (some 1) else (if a0 = 32 then (some 2) else ((abugidaref05_within.f a0 33 47).bind fun t274 => (if t274 = true then (some 4) else ((abugidaref05_within.f a0 48 57).bind fun t275 => (if t275 = true then (some 3) else ((abugidaref05_within.f a0 64 95).bind fun t276 => (if t276 = true then (some 5) else ((abugidaref05_within.f a0 96 103).bind fun t277 => (if t277 = true then (abugidaref05_Class.j0 k a0 true) else ((abugidaref05_within.f a0 144 151).bind fun t278 => (if t278 = true then (abugidaref05_Class.j0 k a0 true) else ((abugidaref05_within.f a0 200 207).bind fun t279 => (abugidaref05_Class.j0 k a0 t279)))))))))))))
theorem abugidaref05_Class.mono_l : ∀ k, (∀ y0 y1, LeO (abugidaref05_Class.j0 k y0 y1) (abugidaref05_Class.j0 (k + 1) y0 y1))
  | 0 => fun _ _ r h => by simp [abugidaref05_Class.j0] at h
  | k + 1 => by
    have ih0 := abugidaref05_Class.mono_l k
    · intro y0 y1
      unfold abugidaref05_Class.j0
      repeat' first
      | (with_reducible exact ih0 _ _)
      | (with_reducible exact LeO.refl _)
      | (with_reducible exact LeO.none _)
      | (with_reducible refine LeO.ite ?_ ?_)
      | (with_reducible refine LeO.bind ?_ (fun _ => ?_))
      | exact ih0 _ _
      | exact LeO.none _
      | refine LeO.ite ?_ ?_
      | refine LeO.bind ?_ (fun _ => ?_)
theorem abugidaref05_Class.mono : ∀ a0 k, LeO (abugidaref05_Class.f k a0) (abugidaref05_Class.f (k + 1) a0) := by
  intro a0 k
  have ih0 := abugidaref05_Class.mono_l k
  unfold abugidaref05_Class.f
  repeat' first
      | (with_reducible exact ih0 _ _)
      | (with_reducible exact LeO.refl _)
      | (with_reducible exact LeO.none _)
      | (with_reducible refine LeO.ite ?_ ?_)
      | (with_reducible refine LeO.bind ?_ (fun _ => ?_))
      | exact ih0 _ _
      | exact LeO.none _
      | refine LeO.ite ?_ ?_
      | refine LeO.bind ?_ (fun _ => ?_)
set_option maxHeartbeats 8000000 in
set_option maxRecDepth 100000 in
theorem abugidaref05_Class.calls (k : Nat) (a0 : Int) (r : Int) (w : World) (h : abugidaref05_Class.f k a0 = some r) :
    Calls Try.prog 39 #[.int .i64 a0] w fun e w' => e = .returned (.int .i64 r) ∧ Drawn0 w w' := by
  have H : (if a0 = 10 then (some 1) else (if a0 = 32 then (some 2) else ((abugidaref05_within.f a0 33 47).bind fun t274 => (if t274 = true then (some 4) else ((abugidaref05_within.f a0 48 57).bind fun t275 => (if t275 = true then (some 3) else ((abugidaref05_within.f a0 64 95).bind fun t276 => (if t276 = true then (some 5) else ((abugidaref05_within.f a0 96 103).bind fun t277 => (if t277 = true then (abugidaref05_Class.j0 k a0 true) else ((abugidaref05_within.f a0 144 151).bind fun t278 => (if t278 = true then (abugidaref05_Class.j0 k a0 true) else ((abugidaref05_within.f a0 200 207).bind fun t279 => (abugidaref05_Class.j0 k a0 t279)))))))))))))) = some r := h
  clear h
  by_cases c2 : a0 = 10
  · rw [if_pos c2] at H
    have c2b0 : (a0 == 10) = true := beq_iff_eq.mpr c2
    have c2b1 : (a0 != 10) = false := bne_eq_false_iff_eq.mpr c2
    clear c2
    obtain rfl := Option.some.inj H
    go_enter Try.func39, Try.ntmps39
    go_wp2
    go_ret
    exact ⟨by first | rfl | (simp; done) | (simp [*]; done), by repeat (first | exact Drawn0.refl _ | apply Drawn0.step)⟩
  · rw [if_neg c2] at H
    have c2b0 : (a0 == 10) = false := beq_eq_false_iff_ne.mpr c2
    have c2b1 : (a0 != 10) = true := bne_iff_ne.mpr c2
    by_cases c3 : a0 = 32
    · rw [if_pos c3] at H
      have c3b0 : (a0 == 32) = true := beq_iff_eq.mpr c3
      have c3b1 : (a0 != 32) = false := bne_eq_false_iff_eq.mpr c3
      clear c3
      obtain rfl := Option.some.inj H
      go_enter Try.func39, Try.ntmps39
      go_wp2
      go_ret
      exact ⟨by first | rfl | (simp; done) | (simp [*]; done), by repeat (first | exact Drawn0.refl _ | apply Drawn0.step)⟩
    · rw [if_neg c3] at H
      have c3b0 : (a0 == 32) = false := beq_eq_false_iff_ne.mpr c3
      have c3b1 : (a0 != 32) = true := bne_iff_ne.mpr c3
      replace H := Option.bind_eq_some_iff.mp H
      obtain ⟨t274, A40, H⟩ := H
      replace H : (if t274 = true then (some 4) else ((abugidaref05_within.f a0 48 57).bind fun t275 => (if t275 = true then (some 3) else ((abugidaref05_within.f a0 64 95).bind fun t276 => (if t276 = true then (some 5) else ((abugidaref05_within.f a0 96 103).bind fun t277 => (if t277 = true then (abugidaref05_Class.j0 k a0 true) else ((abugidaref05_within.f a0 144 151).bind fun t278 => (if t278 = true then (abugidaref05_Class.j0 k a0 true) else ((abugidaref05_within.f a0 200 207).bind fun t279 => (abugidaref05_Class.j0 k a0 t279))))))))))) = some r := H
      have A4 := Aside0.mk A40
      clear A40
      by_cases c5 : t274 = true
      · subst c5
        have H1 : (some 4) = some r := by rw [if_pos rfl] at H; exact H
        clear H
        have H := H1
        clear H1
        obtain rfl := Option.some.inj H
        go_enter Try.func39, Try.ntmps39
        go_wp2_with (first | ((with_reducible refine gate_callee (f := 45) rfl ?_); refine goesL_ (some 11) rfl rfl Try.func45 (by kernel_rfl) rfl #[.int .i64 a0, .int .i64 33, .int .i64 47] rfl (by (try simp only [List.map_toArray, List.map_cons, List.map_nil]); first | done | rfl | (simp only [List.length_drop, List.length_take]; rfl)) ?_; (with_reducible refine (abugidaref05_within.calls a0 33 47 true _ A4.out).mono ?_); rintro e w' ⟨rfl, ⟨nd, rfl⟩⟩; refine ⟨_, rfl, ?_⟩))
        go_ret
        exact ⟨by first | rfl | (simp; done) | (simp [*]; done), by repeat (first | exact Drawn0.refl _ | apply Drawn0.step)⟩
      · replace c5 := Bool.eq_false_iff.mpr c5
        subst c5
        have H1 : ((abugidaref05_within.f a0 48 57).bind fun t275 => (if t275 = true then (some 3) else ((abugidaref05_within.f a0 64 95).bind fun t276 => (if t276 = true then (some 5) else ((abugidaref05_within.f a0 96 103).bind fun t277 => (if t277 = true then (abugidaref05_Class.j0 k a0 true) else ((abugidaref05_within.f a0 144 151).bind fun t278 => (if t278 = true then (abugidaref05_Class.j0 k a0 true) else ((abugidaref05_within.f a0 200 207).bind fun t279 => (abugidaref05_Class.j0 k a0 t279)))))))))) = some r := by rw [if_neg (show ¬ (false = true) by decide)] at H; exact H
        clear H
        have H := H1
        clear H1
        replace H := Option.bind_eq_some_iff.mp H
        obtain ⟨t275, A60, H⟩ := H
        replace H : (if t275 = true then (some 3) else ((abugidaref05_within.f a0 64 95).bind fun t276 => (if t276 = true then (some 5) else ((abugidaref05_within.f a0 96 103).bind fun t277 => (if t277 = true then (abugidaref05_Class.j0 k a0 true) else ((abugidaref05_within.f a0 144 151).bind fun t278 => (if t278 = true then (abugidaref05_Class.j0 k a0 true) else ((abugidaref05_within.f a0 200 207).bind fun t279 => (abugidaref05_Class.j0 k a0 t279))))))))) = some r := H
        have A6 := Aside0.mk A60
        clear A60
        by_cases c7 : t275 = true
        · subst c7
          have H1 : (some 3) = some r := by rw [if_pos rfl] at H; exact H
          clear H
          have H := H1
          clear H1
          obtain rfl := Option.some.inj H
          go_enter Try.func39, Try.ntmps39
          go_wp2_with (first | ((with_reducible refine gate_callee (f := 45) rfl ?_); refine goesL_ (some 11) rfl rfl Try.func45 (by kernel_rfl) rfl #[.int .i64 a0, .int .i64 33, .int .i64 47] rfl (by (try simp only [List.map_toArray, List.map_cons, List.map_nil]); first | done | rfl | (simp only [List.length_drop, List.length_take]; rfl)) ?_; (with_reducible refine (abugidaref05_within.calls a0 33 47 false _ A4.out).mono ?_); rintro e w' ⟨rfl, ⟨nd, rfl⟩⟩; refine ⟨_, rfl, ?_⟩) | ((with_reducible refine gate_callee (f := 45) rfl ?_); refine goesL_ (some 14) rfl rfl Try.func45 (by kernel_rfl) rfl #[.int .i64 a0, .int .i64 48, .int .i64 57] rfl (by (try simp only [List.map_toArray, List.map_cons, List.map_nil]); first | done | rfl | (simp only [List.length_drop, List.length_take]; rfl)) ?_; (with_reducible refine (abugidaref05_within.calls a0 48 57 true _ A6.out).mono ?_); rintro e w' ⟨rfl, ⟨nd, rfl⟩⟩; refine ⟨_, rfl, ?_⟩))
          go_ret
          exact ⟨by first | rfl | (simp; done) | (simp [*]; done), by repeat (first | exact Drawn0.refl _ | apply Drawn0.step)⟩
        · replace c7 := Bool.eq_false_iff.mpr c7
          subst c7
          have H1 : ((abugidaref05_within.f a0 64 95).bind fun t276 => (if t276 = true then (some 5) else ((abugidaref05_within.f a0 96 103).bind fun t277 => (if t277 = true then (abugidaref05_Class.j0 k a0 true) else ((abugidaref05_within.f a0 144 151).bind fun t278 => (if t278 = true then (abugidaref05_Class.j0 k a0 true) else ((abugidaref05_within.f a0 200 207).bind fun t279 => (abugidaref05_Class.j0 k a0 t279)))))))) = some r := by rw [if_neg (show ¬ (false = true) by decide)] at H; exact H
          clear H
          have H := H1
          clear H1
          replace H := Option.bind_eq_some_iff.mp H
          obtain ⟨t276, A80, H⟩ := H
          replace H : (if t276 = true then (some 5) else ((abugidaref05_within.f a0 96 103).bind fun t277 => (if t277 = true then (abugidaref05_Class.j0 k a0 true) else ((abugidaref05_within.f a0 144 151).bind fun t278 => (if t278 = true then (abugidaref05_Class.j0 k a0 true) else ((abugidaref05_within.f a0 200 207).bind fun t279 => (abugidaref05_Class.j0 k a0 t279))))))) = some r := H
          have A8 := Aside0.mk A80
          clear A80
          by_cases c9 : t276 = true
          · subst c9
            have H1 : (some 5) = some r := by rw [if_pos rfl] at H; exact H
            clear H
            have H := H1
            clear H1
            obtain rfl := Option.some.inj H
            go_enter Try.func39, Try.ntmps39
            go_wp2_with (first | ((with_reducible refine gate_callee (f := 45) rfl ?_); refine goesL_ (some 11) rfl rfl Try.func45 (by kernel_rfl) rfl #[.int .i64 a0, .int .i64 33, .int .i64 47] rfl (by (try simp only [List.map_toArray, List.map_cons, List.map_nil]); first | done | rfl | (simp only [List.length_drop, List.length_take]; rfl)) ?_; (with_reducible refine (abugidaref05_within.calls a0 33 47 false _ A4.out).mono ?_); rintro e w' ⟨rfl, ⟨nd, rfl⟩⟩; refine ⟨_, rfl, ?_⟩) | ((with_reducible refine gate_callee (f := 45) rfl ?_); refine goesL_ (some 14) rfl rfl Try.func45 (by kernel_rfl) rfl #[.int .i64 a0, .int .i64 48, .int .i64 57] rfl (by (try simp only [List.map_toArray, List.map_cons, List.map_nil]); first | done | rfl | (simp only [List.length_drop, List.length_take]; rfl)) ?_; (with_reducible refine (abugidaref05_within.calls a0 48 57 false _ A6.out).mono ?_); rintro e w' ⟨rfl, ⟨nd, rfl⟩⟩; refine ⟨_, rfl, ?_⟩) | ((with_reducible refine gate_callee (f := 45) rfl ?_); refine goesL_ (some 17) rfl rfl Try.func45 (by kernel_rfl) rfl #[.int .i64 a0, .int .i64 64, .int .i64 95] rfl (by (try simp only [List.map_toArray, List.map_cons, List.map_nil]); first | done | rfl | (simp only [List.length_drop, List.length_take]; rfl)) ?_; (with_reducible refine (abugidaref05_within.calls a0 64 95 true _ A8.out).mono ?_); rintro e w' ⟨rfl, ⟨nd, rfl⟩⟩; refine ⟨_, rfl, ?_⟩))
            go_ret
            exact ⟨by first | rfl | (simp; done) | (simp [*]; done), by repeat (first | exact Drawn0.refl _ | apply Drawn0.step)⟩
          · replace c9 := Bool.eq_false_iff.mpr c9
            subst c9
            have H1 : ((abugidaref05_within.f a0 96 103).bind fun t277 => (if t277 = true then (abugidaref05_Class.j0 k a0 true) else ((abugidaref05_within.f a0 144 151).bind fun t278 => (if t278 = true then (abugidaref05_Class.j0 k a0 true) else ((abugidaref05_within.f a0 200 207).bind fun t279 => (abugidaref05_Class.j0 k a0 t279)))))) = some r := by rw [if_neg (show ¬ (false = true) by decide)] at H; exact H
            clear H
            have H := H1
            clear H1
            have HC10 := Aside0.mk H
            clear H
            go_enter Try.func39, Try.ntmps39
            go_upto_region 11 with (first | ((with_reducible refine gate_callee (f := 45) rfl ?_); refine goesL_ (some 11) rfl rfl Try.func45 (by kernel_rfl) rfl #[.int .i64 a0, .int .i64 33, .int .i64 47] rfl (by (try simp only [List.map_toArray, List.map_cons, List.map_nil]); first | done | rfl | (simp only [List.length_drop, List.length_take]; rfl)) ?_; (with_reducible refine (abugidaref05_within.calls a0 33 47 false _ A4.out).mono ?_); rintro e w' ⟨rfl, ⟨nd, rfl⟩⟩; refine ⟨_, rfl, ?_⟩) | ((with_reducible refine gate_callee (f := 45) rfl ?_); refine goesL_ (some 14) rfl rfl Try.func45 (by kernel_rfl) rfl #[.int .i64 a0, .int .i64 48, .int .i64 57] rfl (by (try simp only [List.map_toArray, List.map_cons, List.map_nil]); first | done | rfl | (simp only [List.length_drop, List.length_take]; rfl)) ?_; (with_reducible refine (abugidaref05_within.calls a0 48 57 false _ A6.out).mono ?_); rintro e w' ⟨rfl, ⟨nd, rfl⟩⟩; refine ⟨_, rfl, ?_⟩) | ((with_reducible refine gate_callee (f := 45) rfl ?_); refine goesL_ (some 17) rfl rfl Try.func45 (by kernel_rfl) rfl #[.int .i64 a0, .int .i64 64, .int .i64 95] rfl (by (try simp only [List.map_toArray, List.map_cons, List.map_nil]); first | done | rfl | (simp only [List.length_drop, List.length_take]; rfl)) ?_; (with_reducible refine (abugidaref05_within.calls a0 64 95 false _ A8.out).mono ?_); rintro e w' ⟨rfl, ⟨nd, rfl⟩⟩; refine ⟨_, rfl, ?_⟩))
            (try simp only [Act.put, List.setIfInBounds_toArray, List.set_cons_zero, List.set_cons_succ])
            go_cut [18] (fun v18 wc => ∃ (kq : Nat) (x18_9 : Bool), v18 = .bool x18_9 ∧ Aside0 (abugidaref05_Class.j0 kq a0 x18_9 = some r) ∧ Aside0 (kq ≤ k) ∧ Drawn0 w wc)
            case first =>
              have H := HC10.out
              clear HC10
              replace H := Option.bind_eq_some_iff.mp H
              obtain ⟨t277, A110, H⟩ := H
              replace H : (if t277 = true then (abugidaref05_Class.j0 k a0 true) else ((abugidaref05_within.f a0 144 151).bind fun t278 => (if t278 = true then (abugidaref05_Class.j0 k a0 true) else ((abugidaref05_within.f a0 200 207).bind fun t279 => (abugidaref05_Class.j0 k a0 t279))))) = some r := H
              have A11 := Aside0.mk A110
              clear A110
              by_cases c12 : t277 = true
              · subst c12
                have H1 : (abugidaref05_Class.j0 k a0 true) = some r := by rw [if_pos rfl] at H; exact H
                clear H
                have H := H1
                clear H1
                have H' := Aside0.mk H
                clear H
                go_wp2_with (first | ((with_reducible refine gate_callee (f := 45) rfl ?_); refine goesL_ (some 20) rfl rfl Try.func45 (by kernel_rfl) rfl #[.int .i64 a0, .int .i64 96, .int .i64 103] rfl (by (try simp only [List.map_toArray, List.map_cons, List.map_nil]); first | done | rfl | (simp only [List.length_drop, List.length_take]; rfl)) ?_; (with_reducible refine (abugidaref05_within.calls a0 96 103 true _ A11.out).mono ?_); rintro e w' ⟨rfl, ⟨nd, rfl⟩⟩; refine ⟨_, rfl, ?_⟩))
                go_meet
                case rel => exact ⟨_, (true), (by first | rfl | (simp; done) | (simp [*]; done)), H', ⟨by first | omega | exact Nat.le_refl _⟩, by repeat (first | exact Drawn0.refl _ | apply Drawn0.step)⟩
              · replace c12 := Bool.eq_false_iff.mpr c12
                subst c12
                have H1 : ((abugidaref05_within.f a0 144 151).bind fun t278 => (if t278 = true then (abugidaref05_Class.j0 k a0 true) else ((abugidaref05_within.f a0 200 207).bind fun t279 => (abugidaref05_Class.j0 k a0 t279)))) = some r := by rw [if_neg (show ¬ (false = true) by decide)] at H; exact H
                clear H
                have H := H1
                clear H1
                replace H := Option.bind_eq_some_iff.mp H
                obtain ⟨t278, A130, H⟩ := H
                replace H : (if t278 = true then (abugidaref05_Class.j0 k a0 true) else ((abugidaref05_within.f a0 200 207).bind fun t279 => (abugidaref05_Class.j0 k a0 t279))) = some r := H
                have A13 := Aside0.mk A130
                clear A130
                by_cases c14 : t278 = true
                · subst c14
                  have H1 : (abugidaref05_Class.j0 k a0 true) = some r := by rw [if_pos rfl] at H; exact H
                  clear H
                  have H := H1
                  clear H1
                  have H' := Aside0.mk H
                  clear H
                  go_wp2_with (first | ((with_reducible refine gate_callee (f := 45) rfl ?_); refine goesL_ (some 20) rfl rfl Try.func45 (by kernel_rfl) rfl #[.int .i64 a0, .int .i64 96, .int .i64 103] rfl (by (try simp only [List.map_toArray, List.map_cons, List.map_nil]); first | done | rfl | (simp only [List.length_drop, List.length_take]; rfl)) ?_; (with_reducible refine (abugidaref05_within.calls a0 96 103 false _ A11.out).mono ?_); rintro e w' ⟨rfl, ⟨nd, rfl⟩⟩; refine ⟨_, rfl, ?_⟩) | (go_at_call 45; (with_reducible refine (abugidaref05_within.calls a0 144 151 true _ A13.out).mono ?_); rintro e w' ⟨rfl, ⟨nd, rfl⟩⟩))
                  go_meet
                  case rel => exact ⟨_, (true), (by first | rfl | (simp; done) | (simp [*]; done)), H', ⟨by first | omega | exact Nat.le_refl _⟩, by repeat (first | exact Drawn0.refl _ | apply Drawn0.step)⟩
                · replace c14 := Bool.eq_false_iff.mpr c14
                  subst c14
                  have H1 : ((abugidaref05_within.f a0 200 207).bind fun t279 => (abugidaref05_Class.j0 k a0 t279)) = some r := by rw [if_neg (show ¬ (false = true) by decide)] at H; exact H
                  clear H
                  have H := H1
                  clear H1
                  replace H := Option.bind_eq_some_iff.mp H
                  obtain ⟨t279, A150, H⟩ := H
                  replace H : (abugidaref05_Class.j0 k a0 t279) = some r := H
                  have A15 := Aside0.mk A150
                  clear A150
                  have H' := Aside0.mk H
                  clear H
                  go_wp2_with (first | ((with_reducible refine gate_callee (f := 45) rfl ?_); refine goesL_ (some 20) rfl rfl Try.func45 (by kernel_rfl) rfl #[.int .i64 a0, .int .i64 96, .int .i64 103] rfl (by (try simp only [List.map_toArray, List.map_cons, List.map_nil]); first | done | rfl | (simp only [List.length_drop, List.length_take]; rfl)) ?_; (with_reducible refine (abugidaref05_within.calls a0 96 103 false _ A11.out).mono ?_); rintro e w' ⟨rfl, ⟨nd, rfl⟩⟩; refine ⟨_, rfl, ?_⟩) | (go_at_call 45; (with_reducible refine (abugidaref05_within.calls a0 144 151 false _ A13.out).mono ?_); rintro e w' ⟨rfl, ⟨nd, rfl⟩⟩) | (go_at_call 45; (with_reducible refine (abugidaref05_within.calls a0 200 207 t279 _ A15.out).mono ?_); rintro e w' ⟨rfl, ⟨nd, rfl⟩⟩))
                  go_meet
                  case rel => exact ⟨_, (t279), (by first | rfl | (simp; done) | (simp [*]; done)), H', ⟨by first | omega | exact Nat.le_refl _⟩, by repeat (first | exact Drawn0.refl _ | apply Drawn0.step)⟩
            case rest =>
              clear HC10
              try clear c1
              try clear c2
              try clear c2b0
              try clear c2b1
              try clear p2
              try clear c3
              try clear c3b0
              try clear c3b1
              try clear c4
              try clear c5
              try clear c7
              try clear c9
              try clear c12
              try clear c14
              obtain ⟨kq, x18_9, rfl, HA, HJ9, ⟨mc9, rfl⟩⟩ := hcut
              cases kq with
              | zero => exact absurd HA.out (by simp [abugidaref05_Class.j0])
              | succ kj9 =>
                have H := HA.out
                clear HA
                simp only [abugidaref05_Class.j0] at H
                by_cases c16 : x18_9 = true
                · subst c16
                  have H1 : (some 6) = some r := by rw [if_pos rfl] at H; exact H
                  clear H
                  have H := H1
                  clear H1
                  obtain rfl := Option.some.inj H
                  go_wp2
                  go_ret
                  exact ⟨by first | rfl | (simp; done) | (simp [*]; done), by repeat (first | exact Drawn0.refl _ | apply Drawn0.step)⟩
                · replace c16 := Bool.eq_false_iff.mpr c16
                  subst c16
                  have H1 : ((abugidaref05_within.f a0 104 127).bind fun t280 => (if t280 = true then (some 7) else ((abugidaref05_within.f a0 128 143).bind fun t281 => (if t281 = true then (some 8) else ((abugidaref05_within.f a0 152 183).bind fun t282 => (if t282 = true then (some 9) else (if a0 = 184 then (some 10) else ((abugidaref05_within.f a0 185 191).bind fun t283 => (if t283 = true then (some 11) else ((abugidaref05_within.f a0 192 199).bind fun t284 => (if t284 = true then (some 12) else (if a0 = 240 then (some 13) else (if a0 = 241 then (some 14) else (some 0)))))))))))))) = some r := by rw [if_neg (show ¬ (false = true) by decide)] at H; exact H
                  clear H
                  have H := H1
                  clear H1
                  replace H := Option.bind_eq_some_iff.mp H
                  obtain ⟨t280, A170, H⟩ := H
                  replace H : (if t280 = true then (some 7) else ((abugidaref05_within.f a0 128 143).bind fun t281 => (if t281 = true then (some 8) else ((abugidaref05_within.f a0 152 183).bind fun t282 => (if t282 = true then (some 9) else (if a0 = 184 then (some 10) else ((abugidaref05_within.f a0 185 191).bind fun t283 => (if t283 = true then (some 11) else ((abugidaref05_within.f a0 192 199).bind fun t284 => (if t284 = true then (some 12) else (if a0 = 240 then (some 13) else (if a0 = 241 then (some 14) else (some 0))))))))))))) = some r := H
                  have A17 := Aside0.mk A170
                  clear A170
                  by_cases c18 : t280 = true
                  · subst c18
                    have H1 : (some 7) = some r := by rw [if_pos rfl] at H; exact H
                    clear H
                    have H := H1
                    clear H1
                    obtain rfl := Option.some.inj H
                    go_wp2_with (first | ((with_reducible refine gate_callee (f := 45) rfl ?_); refine goesL_ (some 31) rfl rfl Try.func45 (by kernel_rfl) rfl #[.int .i64 a0, .int .i64 104, .int .i64 127] rfl (by (try simp only [List.map_toArray, List.map_cons, List.map_nil]); first | done | rfl | (simp only [List.length_drop, List.length_take]; rfl)) ?_; (with_reducible refine (abugidaref05_within.calls a0 104 127 true _ A17.out).mono ?_); rintro e w' ⟨rfl, ⟨nd, rfl⟩⟩; refine ⟨_, rfl, ?_⟩))
                    go_ret
                    exact ⟨by first | rfl | (simp; done) | (simp [*]; done), by repeat (first | exact Drawn0.refl _ | apply Drawn0.step)⟩
                  · replace c18 := Bool.eq_false_iff.mpr c18
                    subst c18
                    have H1 : ((abugidaref05_within.f a0 128 143).bind fun t281 => (if t281 = true then (some 8) else ((abugidaref05_within.f a0 152 183).bind fun t282 => (if t282 = true then (some 9) else (if a0 = 184 then (some 10) else ((abugidaref05_within.f a0 185 191).bind fun t283 => (if t283 = true then (some 11) else ((abugidaref05_within.f a0 192 199).bind fun t284 => (if t284 = true then (some 12) else (if a0 = 240 then (some 13) else (if a0 = 241 then (some 14) else (some 0)))))))))))) = some r := by rw [if_neg (show ¬ (false = true) by decide)] at H; exact H
                    clear H
                    have H := H1
                    clear H1
                    replace H := Option.bind_eq_some_iff.mp H
                    obtain ⟨t281, A190, H⟩ := H
                    replace H : (if t281 = true then (some 8) else ((abugidaref05_within.f a0 152 183).bind fun t282 => (if t282 = true then (some 9) else (if a0 = 184 then (some 10) else ((abugidaref05_within.f a0 185 191).bind fun t283 => (if t283 = true then (some 11) else ((abugidaref05_within.f a0 192 199).bind fun t284 => (if t284 = true then (some 12) else (if a0 = 240 then (some 13) else (if a0 = 241 then (some 14) else (some 0))))))))))) = some r := H
                    have A19 := Aside0.mk A190
                    clear A190
                    by_cases c20 : t281 = true
                    · subst c20
                      have H1 : (some 8) = some r := by rw [if_pos rfl] at H; exact H
                      clear H
                      have H := H1
                      clear H1
                      obtain rfl := Option.some.inj H
                      go_wp2_with (first | ((with_reducible refine gate_callee (f := 45) rfl ?_); refine goesL_ (some 31) rfl rfl Try.func45 (by kernel_rfl) rfl #[.int .i64 a0, .int .i64 104, .int .i64 127] rfl (by (try simp only [List.map_toArray, List.map_cons, List.map_nil]); first | done | rfl | (simp only [List.length_drop, List.length_take]; rfl)) ?_; (with_reducible refine (abugidaref05_within.calls a0 104 127 false _ A17.out).mono ?_); rintro e w' ⟨rfl, ⟨nd, rfl⟩⟩; refine ⟨_, rfl, ?_⟩) | ((with_reducible refine gate_callee (f := 45) rfl ?_); refine goesL_ (some 34) rfl rfl Try.func45 (by kernel_rfl) rfl #[.int .i64 a0, .int .i64 128, .int .i64 143] rfl (by (try simp only [List.map_toArray, List.map_cons, List.map_nil]); first | done | rfl | (simp only [List.length_drop, List.length_take]; rfl)) ?_; (with_reducible refine (abugidaref05_within.calls a0 128 143 true _ A19.out).mono ?_); rintro e w' ⟨rfl, ⟨nd, rfl⟩⟩; refine ⟨_, rfl, ?_⟩))
                      go_ret
                      exact ⟨by first | rfl | (simp; done) | (simp [*]; done), by repeat (first | exact Drawn0.refl _ | apply Drawn0.step)⟩
                    · replace c20 := Bool.eq_false_iff.mpr c20
                      subst c20
                      have H1 : ((abugidaref05_within.f a0 152 183).bind fun t282 => (if t282 = true then (some 9) else (if a0 = 184 then (some 10) else ((abugidaref05_within.f a0 185 191).bind fun t283 => (if t283 = true then (some 11) else ((abugidaref05_within.f a0 192 199).bind fun t284 => (if t284 = true then (some 12) else (if a0 = 240 then (some 13) else (if a0 = 241 then (some 14) else (some 0)))))))))) = some r := by rw [if_neg (show ¬ (false = true) by decide)] at H; exact H
                      clear H
                      have H := H1
                      clear H1
                      replace H := Option.bind_eq_some_iff.mp H
                      obtain ⟨t282, A210, H⟩ := H
                      replace H : (if t282 = true then (some 9) else (if a0 = 184 then (some 10) else ((abugidaref05_within.f a0 185 191).bind fun t283 => (if t283 = true then (some 11) else ((abugidaref05_within.f a0 192 199).bind fun t284 => (if t284 = true then (some 12) else (if a0 = 240 then (some 13) else (if a0 = 241 then (some 14) else (some 0))))))))) = some r := H
                      have A21 := Aside0.mk A210
                      clear A210
                      by_cases c22 : t282 = true
                      · subst c22
                        have H1 : (some 9) = some r := by rw [if_pos rfl] at H; exact H
                        clear H
                        have H := H1
                        clear H1
                        obtain rfl := Option.some.inj H
                        go_wp2_with (first | ((with_reducible refine gate_callee (f := 45) rfl ?_); refine goesL_ (some 31) rfl rfl Try.func45 (by kernel_rfl) rfl #[.int .i64 a0, .int .i64 104, .int .i64 127] rfl (by (try simp only [List.map_toArray, List.map_cons, List.map_nil]); first | done | rfl | (simp only [List.length_drop, List.length_take]; rfl)) ?_; (with_reducible refine (abugidaref05_within.calls a0 104 127 false _ A17.out).mono ?_); rintro e w' ⟨rfl, ⟨nd, rfl⟩⟩; refine ⟨_, rfl, ?_⟩) | ((with_reducible refine gate_callee (f := 45) rfl ?_); refine goesL_ (some 34) rfl rfl Try.func45 (by kernel_rfl) rfl #[.int .i64 a0, .int .i64 128, .int .i64 143] rfl (by (try simp only [List.map_toArray, List.map_cons, List.map_nil]); first | done | rfl | (simp only [List.length_drop, List.length_take]; rfl)) ?_; (with_reducible refine (abugidaref05_within.calls a0 128 143 false _ A19.out).mono ?_); rintro e w' ⟨rfl, ⟨nd, rfl⟩⟩; refine ⟨_, rfl, ?_⟩) | ((with_reducible refine gate_callee (f := 45) rfl ?_); refine goesL_ (some 37) rfl rfl Try.func45 (by kernel_rfl) rfl #[.int .i64 a0, .int .i64 152, .int .i64 183] rfl (by (try simp only [List.map_toArray, List.map_cons, List.map_nil]); first | done | rfl | (simp only [List.length_drop, List.length_take]; rfl)) ?_; (with_reducible refine (abugidaref05_within.calls a0 152 183 true _ A21.out).mono ?_); rintro e w' ⟨rfl, ⟨nd, rfl⟩⟩; refine ⟨_, rfl, ?_⟩))
                        go_ret
                        exact ⟨by first | rfl | (simp; done) | (simp [*]; done), by repeat (first | exact Drawn0.refl _ | apply Drawn0.step)⟩
                      · replace c22 := Bool.eq_false_iff.mpr c22
                        subst c22
                        have H1 : (if a0 = 184 then (some 10) else ((abugidaref05_within.f a0 185 191).bind fun t283 => (if t283 = true then (some 11) else ((abugidaref05_within.f a0 192 199).bind fun t284 => (if t284 = true then (some 12) else (if a0 = 240 then (some 13) else (if a0 = 241 then (some 14) else (some 0)))))))) = some r := by rw [if_neg (show ¬ (false = true) by decide)] at H; exact H
                        clear H
                        have H := H1
                        clear H1
                        by_cases c23 : a0 = 184
                        · rw [if_pos c23] at H
                          have c23b0 : (a0 == 184) = true := beq_iff_eq.mpr c23
                          have c23b1 : (a0 != 184) = false := bne_eq_false_iff_eq.mpr c23
                          clear c23
                          obtain rfl := Option.some.inj H
                          go_wp2_with (first | ((with_reducible refine gate_callee (f := 45) rfl ?_); refine goesL_ (some 31) rfl rfl Try.func45 (by kernel_rfl) rfl #[.int .i64 a0, .int .i64 104, .int .i64 127] rfl (by (try simp only [List.map_toArray, List.map_cons, List.map_nil]); first | done | rfl | (simp only [List.length_drop, List.length_take]; rfl)) ?_; (with_reducible refine (abugidaref05_within.calls a0 104 127 false _ A17.out).mono ?_); rintro e w' ⟨rfl, ⟨nd, rfl⟩⟩; refine ⟨_, rfl, ?_⟩) | ((with_reducible refine gate_callee (f := 45) rfl ?_); refine goesL_ (some 34) rfl rfl Try.func45 (by kernel_rfl) rfl #[.int .i64 a0, .int .i64 128, .int .i64 143] rfl (by (try simp only [List.map_toArray, List.map_cons, List.map_nil]); first | done | rfl | (simp only [List.length_drop, List.length_take]; rfl)) ?_; (with_reducible refine (abugidaref05_within.calls a0 128 143 false _ A19.out).mono ?_); rintro e w' ⟨rfl, ⟨nd, rfl⟩⟩; refine ⟨_, rfl, ?_⟩) | ((with_reducible refine gate_callee (f := 45) rfl ?_); refine goesL_ (some 37) rfl rfl Try.func45 (by kernel_rfl) rfl #[.int .i64 a0, .int .i64 152, .int .i64 183] rfl (by (try simp only [List.map_toArray, List.map_cons, List.map_nil]); first | done | rfl | (simp only [List.length_drop, List.length_take]; rfl)) ?_; (with_reducible refine (abugidaref05_within.calls a0 152 183 false _ A21.out).mono ?_); rintro e w' ⟨rfl, ⟨nd, rfl⟩⟩; refine ⟨_, rfl, ?_⟩))
                          go_ret
                          exact ⟨by first | rfl | (simp; done) | (simp [*]; done), by repeat (first | exact Drawn0.refl _ | apply Drawn0.step)⟩
                        · rw [if_neg c23] at H
                          have c23b0 : (a0 == 184) = false := beq_eq_false_iff_ne.mpr c23
                          have c23b1 : (a0 != 184) = true := bne_iff_ne.mpr c23
                          replace H := Option.bind_eq_some_iff.mp H
                          obtain ⟨t283, A240, H⟩ := H
                          replace H : (if t283 = true then (some 11) else ((abugidaref05_within.f a0 192 199).bind fun t284 => (if t284 = true then (some 12) else (if a0 = 240 then (some 13) else (if a0 = 241 then (some 14) else (some 0)))))) = some r := H
                          have A24 := Aside0.mk A240
                          clear A240
                          by_cases c25 : t283 = true
                          · subst c25
                            have H1 : (some 11) = some r := by rw [if_pos rfl] at H; exact H
                            clear H
                            have H := H1
                            clear H1
                            obtain rfl := Option.some.inj H
                            go_wp2_with (first | ((with_reducible refine gate_callee (f := 45) rfl ?_); refine goesL_ (some 31) rfl rfl Try.func45 (by kernel_rfl) rfl #[.int .i64 a0, .int .i64 104, .int .i64 127] rfl (by (try simp only [List.map_toArray, List.map_cons, List.map_nil]); first | done | rfl | (simp only [List.length_drop, List.length_take]; rfl)) ?_; (with_reducible refine (abugidaref05_within.calls a0 104 127 false _ A17.out).mono ?_); rintro e w' ⟨rfl, ⟨nd, rfl⟩⟩; refine ⟨_, rfl, ?_⟩) | ((with_reducible refine gate_callee (f := 45) rfl ?_); refine goesL_ (some 34) rfl rfl Try.func45 (by kernel_rfl) rfl #[.int .i64 a0, .int .i64 128, .int .i64 143] rfl (by (try simp only [List.map_toArray, List.map_cons, List.map_nil]); first | done | rfl | (simp only [List.length_drop, List.length_take]; rfl)) ?_; (with_reducible refine (abugidaref05_within.calls a0 128 143 false _ A19.out).mono ?_); rintro e w' ⟨rfl, ⟨nd, rfl⟩⟩; refine ⟨_, rfl, ?_⟩) | ((with_reducible refine gate_callee (f := 45) rfl ?_); refine goesL_ (some 37) rfl rfl Try.func45 (by kernel_rfl) rfl #[.int .i64 a0, .int .i64 152, .int .i64 183] rfl (by (try simp only [List.map_toArray, List.map_cons, List.map_nil]); first | done | rfl | (simp only [List.length_drop, List.length_take]; rfl)) ?_; (with_reducible refine (abugidaref05_within.calls a0 152 183 false _ A21.out).mono ?_); rintro e w' ⟨rfl, ⟨nd, rfl⟩⟩; refine ⟨_, rfl, ?_⟩) | ((with_reducible refine gate_callee (f := 45) rfl ?_); refine goesL_ (some 43) rfl rfl Try.func45 (by kernel_rfl) rfl #[.int .i64 a0, .int .i64 185, .int .i64 191] rfl (by (try simp only [List.map_toArray, List.map_cons, List.map_nil]); first | done | rfl | (simp only [List.length_drop, List.length_take]; rfl)) ?_; (with_reducible refine (abugidaref05_within.calls a0 185 191 true _ A24.out).mono ?_); rintro e w' ⟨rfl, ⟨nd, rfl⟩⟩; refine ⟨_, rfl, ?_⟩))
                            go_ret
                            exact ⟨by first | rfl | (simp; done) | (simp [*]; done), by repeat (first | exact Drawn0.refl _ | apply Drawn0.step)⟩
                          · replace c25 := Bool.eq_false_iff.mpr c25
                            subst c25
                            have H1 : ((abugidaref05_within.f a0 192 199).bind fun t284 => (if t284 = true then (some 12) else (if a0 = 240 then (some 13) else (if a0 = 241 then (some 14) else (some 0))))) = some r := by rw [if_neg (show ¬ (false = true) by decide)] at H; exact H
                            clear H
                            have H := H1
                            clear H1
                            replace H := Option.bind_eq_some_iff.mp H
                            obtain ⟨t284, A260, H⟩ := H
                            replace H : (if t284 = true then (some 12) else (if a0 = 240 then (some 13) else (if a0 = 241 then (some 14) else (some 0)))) = some r := H
                            have A26 := Aside0.mk A260
                            clear A260
                            by_cases c27 : t284 = true
                            · subst c27
                              have H1 : (some 12) = some r := by rw [if_pos rfl] at H; exact H
                              clear H
                              have H := H1
                              clear H1
                              obtain rfl := Option.some.inj H
                              go_wp2_with (first | ((with_reducible refine gate_callee (f := 45) rfl ?_); refine goesL_ (some 31) rfl rfl Try.func45 (by kernel_rfl) rfl #[.int .i64 a0, .int .i64 104, .int .i64 127] rfl (by (try simp only [List.map_toArray, List.map_cons, List.map_nil]); first | done | rfl | (simp only [List.length_drop, List.length_take]; rfl)) ?_; (with_reducible refine (abugidaref05_within.calls a0 104 127 false _ A17.out).mono ?_); rintro e w' ⟨rfl, ⟨nd, rfl⟩⟩; refine ⟨_, rfl, ?_⟩) | ((with_reducible refine gate_callee (f := 45) rfl ?_); refine goesL_ (some 34) rfl rfl Try.func45 (by kernel_rfl) rfl #[.int .i64 a0, .int .i64 128, .int .i64 143] rfl (by (try simp only [List.map_toArray, List.map_cons, List.map_nil]); first | done | rfl | (simp only [List.length_drop, List.length_take]; rfl)) ?_; (with_reducible refine (abugidaref05_within.calls a0 128 143 false _ A19.out).mono ?_); rintro e w' ⟨rfl, ⟨nd, rfl⟩⟩; refine ⟨_, rfl, ?_⟩) | ((with_reducible refine gate_callee (f := 45) rfl ?_); refine goesL_ (some 37) rfl rfl Try.func45 (by kernel_rfl) rfl #[.int .i64 a0, .int .i64 152, .int .i64 183] rfl (by (try simp only [List.map_toArray, List.map_cons, List.map_nil]); first | done | rfl | (simp only [List.length_drop, List.length_take]; rfl)) ?_; (with_reducible refine (abugidaref05_within.calls a0 152 183 false _ A21.out).mono ?_); rintro e w' ⟨rfl, ⟨nd, rfl⟩⟩; refine ⟨_, rfl, ?_⟩) | ((with_reducible refine gate_callee (f := 45) rfl ?_); refine goesL_ (some 43) rfl rfl Try.func45 (by kernel_rfl) rfl #[.int .i64 a0, .int .i64 185, .int .i64 191] rfl (by (try simp only [List.map_toArray, List.map_cons, List.map_nil]); first | done | rfl | (simp only [List.length_drop, List.length_take]; rfl)) ?_; (with_reducible refine (abugidaref05_within.calls a0 185 191 false _ A24.out).mono ?_); rintro e w' ⟨rfl, ⟨nd, rfl⟩⟩; refine ⟨_, rfl, ?_⟩) | ((with_reducible refine gate_callee (f := 45) rfl ?_); refine goesL_ (some 46) rfl rfl Try.func45 (by kernel_rfl) rfl #[.int .i64 a0, .int .i64 192, .int .i64 199] rfl (by (try simp only [List.map_toArray, List.map_cons, List.map_nil]); first | done | rfl | (simp only [List.length_drop, List.length_take]; rfl)) ?_; (with_reducible refine (abugidaref05_within.calls a0 192 199 true _ A26.out).mono ?_); rintro e w' ⟨rfl, ⟨nd, rfl⟩⟩; refine ⟨_, rfl, ?_⟩))
                              go_ret
                              exact ⟨by first | rfl | (simp; done) | (simp [*]; done), by repeat (first | exact Drawn0.refl _ | apply Drawn0.step)⟩
                            · replace c27 := Bool.eq_false_iff.mpr c27
                              subst c27
                              have H1 : (if a0 = 240 then (some 13) else (if a0 = 241 then (some 14) else (some 0))) = some r := by rw [if_neg (show ¬ (false = true) by decide)] at H; exact H
                              clear H
                              have H := H1
                              clear H1
                              by_cases c28 : a0 = 240
                              · rw [if_pos c28] at H
                                have c28b0 : (a0 == 240) = true := beq_iff_eq.mpr c28
                                have c28b1 : (a0 != 240) = false := bne_eq_false_iff_eq.mpr c28
                                clear c28
                                obtain rfl := Option.some.inj H
                                go_wp2_with (first | ((with_reducible refine gate_callee (f := 45) rfl ?_); refine goesL_ (some 31) rfl rfl Try.func45 (by kernel_rfl) rfl #[.int .i64 a0, .int .i64 104, .int .i64 127] rfl (by (try simp only [List.map_toArray, List.map_cons, List.map_nil]); first | done | rfl | (simp only [List.length_drop, List.length_take]; rfl)) ?_; (with_reducible refine (abugidaref05_within.calls a0 104 127 false _ A17.out).mono ?_); rintro e w' ⟨rfl, ⟨nd, rfl⟩⟩; refine ⟨_, rfl, ?_⟩) | ((with_reducible refine gate_callee (f := 45) rfl ?_); refine goesL_ (some 34) rfl rfl Try.func45 (by kernel_rfl) rfl #[.int .i64 a0, .int .i64 128, .int .i64 143] rfl (by (try simp only [List.map_toArray, List.map_cons, List.map_nil]); first | done | rfl | (simp only [List.length_drop, List.length_take]; rfl)) ?_; (with_reducible refine (abugidaref05_within.calls a0 128 143 false _ A19.out).mono ?_); rintro e w' ⟨rfl, ⟨nd, rfl⟩⟩; refine ⟨_, rfl, ?_⟩) | ((with_reducible refine gate_callee (f := 45) rfl ?_); refine goesL_ (some 37) rfl rfl Try.func45 (by kernel_rfl) rfl #[.int .i64 a0, .int .i64 152, .int .i64 183] rfl (by (try simp only [List.map_toArray, List.map_cons, List.map_nil]); first | done | rfl | (simp only [List.length_drop, List.length_take]; rfl)) ?_; (with_reducible refine (abugidaref05_within.calls a0 152 183 false _ A21.out).mono ?_); rintro e w' ⟨rfl, ⟨nd, rfl⟩⟩; refine ⟨_, rfl, ?_⟩) | ((with_reducible refine gate_callee (f := 45) rfl ?_); refine goesL_ (some 43) rfl rfl Try.func45 (by kernel_rfl) rfl #[.int .i64 a0, .int .i64 185, .int .i64 191] rfl (by (try simp only [List.map_toArray, List.map_cons, List.map_nil]); first | done | rfl | (simp only [List.length_drop, List.length_take]; rfl)) ?_; (with_reducible refine (abugidaref05_within.calls a0 185 191 false _ A24.out).mono ?_); rintro e w' ⟨rfl, ⟨nd, rfl⟩⟩; refine ⟨_, rfl, ?_⟩) | ((with_reducible refine gate_callee (f := 45) rfl ?_); refine goesL_ (some 46) rfl rfl Try.func45 (by kernel_rfl) rfl #[.int .i64 a0, .int .i64 192, .int .i64 199] rfl (by (try simp only [List.map_toArray, List.map_cons, List.map_nil]); first | done | rfl | (simp only [List.length_drop, List.length_take]; rfl)) ?_; (with_reducible refine (abugidaref05_within.calls a0 192 199 false _ A26.out).mono ?_); rintro e w' ⟨rfl, ⟨nd, rfl⟩⟩; refine ⟨_, rfl, ?_⟩))
                                go_ret
                                exact ⟨by first | rfl | (simp; done) | (simp [*]; done), by repeat (first | exact Drawn0.refl _ | apply Drawn0.step)⟩
                              · rw [if_neg c28] at H
                                have c28b0 : (a0 == 240) = false := beq_eq_false_iff_ne.mpr c28
                                have c28b1 : (a0 != 240) = true := bne_iff_ne.mpr c28
                                by_cases c29 : a0 = 241
                                · rw [if_pos c29] at H
                                  have c29b0 : (a0 == 241) = true := beq_iff_eq.mpr c29
                                  have c29b1 : (a0 != 241) = false := bne_eq_false_iff_eq.mpr c29
                                  clear c29
                                  obtain rfl := Option.some.inj H
                                  go_wp2_with (first | ((with_reducible refine gate_callee (f := 45) rfl ?_); refine goesL_ (some 31) rfl rfl Try.func45 (by kernel_rfl) rfl #[.int .i64 a0, .int .i64 104, .int .i64 127] rfl (by (try simp only [List.map_toArray, List.map_cons, List.map_nil]); first | done | rfl | (simp only [List.length_drop, List.length_take]; rfl)) ?_; (with_reducible refine (abugidaref05_within.calls a0 104 127 false _ A17.out).mono ?_); rintro e w' ⟨rfl, ⟨nd, rfl⟩⟩; refine ⟨_, rfl, ?_⟩) | ((with_reducible refine gate_callee (f := 45) rfl ?_); refine goesL_ (some 34) rfl rfl Try.func45 (by kernel_rfl) rfl #[.int .i64 a0, .int .i64 128, .int .i64 143] rfl (by (try simp only [List.map_toArray, List.map_cons, List.map_nil]); first | done | rfl | (simp only [List.length_drop, List.length_take]; rfl)) ?_; (with_reducible refine (abugidaref05_within.calls a0 128 143 false _ A19.out).mono ?_); rintro e w' ⟨rfl, ⟨nd, rfl⟩⟩; refine ⟨_, rfl, ?_⟩) | ((with_reducible refine gate_callee (f := 45) rfl ?_); refine goesL_ (some 37) rfl rfl Try.func45 (by kernel_rfl) rfl #[.int .i64 a0, .int .i64 152, .int .i64 183] rfl (by (try simp only [List.map_toArray, List.map_cons, List.map_nil]); first | done | rfl | (simp only [List.length_drop, List.length_take]; rfl)) ?_; (with_reducible refine (abugidaref05_within.calls a0 152 183 false _ A21.out).mono ?_); rintro e w' ⟨rfl, ⟨nd, rfl⟩⟩; refine ⟨_, rfl, ?_⟩) | ((with_reducible refine gate_callee (f := 45) rfl ?_); refine goesL_ (some 43) rfl rfl Try.func45 (by kernel_rfl) rfl #[.int .i64 a0, .int .i64 185, .int .i64 191] rfl (by (try simp only [List.map_toArray, List.map_cons, List.map_nil]); first | done | rfl | (simp only [List.length_drop, List.length_take]; rfl)) ?_; (with_reducible refine (abugidaref05_within.calls a0 185 191 false _ A24.out).mono ?_); rintro e w' ⟨rfl, ⟨nd, rfl⟩⟩; refine ⟨_, rfl, ?_⟩) | ((with_reducible refine gate_callee (f := 45) rfl ?_); refine goesL_ (some 46) rfl rfl Try.func45 (by kernel_rfl) rfl #[.int .i64 a0, .int .i64 192, .int .i64 199] rfl (by (try simp only [List.map_toArray, List.map_cons, List.map_nil]); first | done | rfl | (simp only [List.length_drop, List.length_take]; rfl)) ?_; (with_reducible refine (abugidaref05_within.calls a0 192 199 false _ A26.out).mono ?_); rintro e w' ⟨rfl, ⟨nd, rfl⟩⟩; refine ⟨_, rfl, ?_⟩))
                                  go_ret
                                  exact ⟨by first | rfl | (simp; done) | (simp [*]; done), by repeat (first | exact Drawn0.refl _ | apply Drawn0.step)⟩
                                · rw [if_neg c29] at H
                                  have c29b0 : (a0 == 241) = false := beq_eq_false_iff_ne.mpr c29
                                  have c29b1 : (a0 != 241) = true := bne_iff_ne.mpr c29
                                  obtain rfl := Option.some.inj H
                                  go_wp2_with (first | ((with_reducible refine gate_callee (f := 45) rfl ?_); refine goesL_ (some 31) rfl rfl Try.func45 (by kernel_rfl) rfl #[.int .i64 a0, .int .i64 104, .int .i64 127] rfl (by (try simp only [List.map_toArray, List.map_cons, List.map_nil]); first | done | rfl | (simp only [List.length_drop, List.length_take]; rfl)) ?_; (with_reducible refine (abugidaref05_within.calls a0 104 127 false _ A17.out).mono ?_); rintro e w' ⟨rfl, ⟨nd, rfl⟩⟩; refine ⟨_, rfl, ?_⟩) | ((with_reducible refine gate_callee (f := 45) rfl ?_); refine goesL_ (some 34) rfl rfl Try.func45 (by kernel_rfl) rfl #[.int .i64 a0, .int .i64 128, .int .i64 143] rfl (by (try simp only [List.map_toArray, List.map_cons, List.map_nil]); first | done | rfl | (simp only [List.length_drop, List.length_take]; rfl)) ?_; (with_reducible refine (abugidaref05_within.calls a0 128 143 false _ A19.out).mono ?_); rintro e w' ⟨rfl, ⟨nd, rfl⟩⟩; refine ⟨_, rfl, ?_⟩) | ((with_reducible refine gate_callee (f := 45) rfl ?_); refine goesL_ (some 37) rfl rfl Try.func45 (by kernel_rfl) rfl #[.int .i64 a0, .int .i64 152, .int .i64 183] rfl (by (try simp only [List.map_toArray, List.map_cons, List.map_nil]); first | done | rfl | (simp only [List.length_drop, List.length_take]; rfl)) ?_; (with_reducible refine (abugidaref05_within.calls a0 152 183 false _ A21.out).mono ?_); rintro e w' ⟨rfl, ⟨nd, rfl⟩⟩; refine ⟨_, rfl, ?_⟩) | ((with_reducible refine gate_callee (f := 45) rfl ?_); refine goesL_ (some 43) rfl rfl Try.func45 (by kernel_rfl) rfl #[.int .i64 a0, .int .i64 185, .int .i64 191] rfl (by (try simp only [List.map_toArray, List.map_cons, List.map_nil]); first | done | rfl | (simp only [List.length_drop, List.length_take]; rfl)) ?_; (with_reducible refine (abugidaref05_within.calls a0 185 191 false _ A24.out).mono ?_); rintro e w' ⟨rfl, ⟨nd, rfl⟩⟩; refine ⟨_, rfl, ?_⟩) | ((with_reducible refine gate_callee (f := 45) rfl ?_); refine goesL_ (some 46) rfl rfl Try.func45 (by kernel_rfl) rfl #[.int .i64 a0, .int .i64 192, .int .i64 199] rfl (by (try simp only [List.map_toArray, List.map_cons, List.map_nil]); first | done | rfl | (simp only [List.length_drop, List.length_take]; rfl)) ?_; (with_reducible refine (abugidaref05_within.calls a0 192 199 false _ A26.out).mono ?_); rintro e w' ⟨rfl, ⟨nd, rfl⟩⟩; refine ⟨_, rfl, ?_⟩))
                                  go_ret
                                  exact ⟨by first | rfl | (simp; done) | (simp [*]; done), by repeat (first | exact Drawn0.refl _ | apply Drawn0.step)⟩

/-! ### abugidaref05_Extends: function 38 -/
def abugidaref05_Extends.f (k : Nat) (a0 : Int) : Option (Bool) := (abugidaref05_Class.f k a0).bind fun t285 => (if t285 = 6 then (some true) else (if t285 = 10 then (some true) else (if t285 = 11 then (some true) else (if t285 = 12 then (some true) else (if t285 = 13 then (some true) else (some (t285 == 14)))))))
theorem abugidaref05_Extends.mono : ∀ a0 k, LeO (abugidaref05_Extends.f k a0) (abugidaref05_Extends.f (k + 1) a0) := by
  intro a0 k
  unfold abugidaref05_Extends.f
  repeat' first
      | (with_reducible exact abugidaref05_Class.mono _ _)
      | (with_reducible exact LeO.refl _)
      | (with_reducible exact LeO.none _)
      | (with_reducible refine LeO.ite ?_ ?_)
      | (with_reducible refine LeO.bind ?_ (fun _ => ?_))
      | exact abugidaref05_Class.mono _ _
      | exact LeO.none _
      | refine LeO.ite ?_ ?_
      | refine LeO.bind ?_ (fun _ => ?_)
set_option maxHeartbeats 8000000 in
set_option maxRecDepth 100000 in
theorem abugidaref05_Extends.calls (k : Nat) (a0 : Int) (r : Bool) (w : World) (h : abugidaref05_Extends.f k a0 = some r) :
    Calls Try.prog 38 #[.int .i64 a0] w fun e w' => e = .returned (.bool r) ∧ Drawn0 w w' := by
  have H : ((abugidaref05_Class.f k a0).bind fun t285 => (if t285 = 6 then (some true) else (if t285 = 10 then (some true) else (if t285 = 11 then (some true) else (if t285 = 12 then (some true) else (if t285 = 13 then (some true) else (some (t285 == 14)))))))) = some r := h
  clear h
  replace H := Option.bind_eq_some_iff.mp H
  obtain ⟨t285, A20, H⟩ := H
  replace H : (if t285 = 6 then (some true) else (if t285 = 10 then (some true) else (if t285 = 11 then (some true) else (if t285 = 12 then (some true) else (if t285 = 13 then (some true) else (some (t285 == 14))))))) = some r := H
  have A2 := Aside0.mk A20
  clear A20
  by_cases c3 : t285 = 6
  · rw [if_pos c3] at H
    have c3b0 : (t285 == 6) = true := beq_iff_eq.mpr c3
    have c3b1 : (t285 != 6) = false := bne_eq_false_iff_eq.mpr c3
    clear c3
    obtain rfl := Option.some.inj H
    go_enter Try.func38, Try.ntmps38
    go_wp2_with (first | ((with_reducible refine gate_callee (f := 39) rfl ?_); refine goesL_ (some 5) rfl rfl Try.func39 (by kernel_rfl) rfl #[.int .i64 a0] rfl (by (try simp only [List.map_toArray, List.map_cons, List.map_nil]); first | done | rfl | (simp only [List.length_drop, List.length_take]; rfl)) ?_; (with_reducible refine (abugidaref05_Class.calls k a0 t285 _ A2.out).mono ?_); rintro e w' ⟨rfl, ⟨nd, rfl⟩⟩; refine ⟨_, rfl, ?_⟩))
    go_ret
    exact ⟨by first | rfl | (simp; done) | (simp [*]; done), by repeat (first | exact Drawn0.refl _ | apply Drawn0.step)⟩
  · rw [if_neg c3] at H
    have c3b0 : (t285 == 6) = false := beq_eq_false_iff_ne.mpr c3
    have c3b1 : (t285 != 6) = true := bne_iff_ne.mpr c3
    by_cases c4 : t285 = 10
    · rw [if_pos c4] at H
      have c4b0 : (t285 == 10) = true := beq_iff_eq.mpr c4
      have c4b1 : (t285 != 10) = false := bne_eq_false_iff_eq.mpr c4
      clear c4
      obtain rfl := Option.some.inj H
      go_enter Try.func38, Try.ntmps38
      go_wp2_with (first | ((with_reducible refine gate_callee (f := 39) rfl ?_); refine goesL_ (some 5) rfl rfl Try.func39 (by kernel_rfl) rfl #[.int .i64 a0] rfl (by (try simp only [List.map_toArray, List.map_cons, List.map_nil]); first | done | rfl | (simp only [List.length_drop, List.length_take]; rfl)) ?_; (with_reducible refine (abugidaref05_Class.calls k a0 t285 _ A2.out).mono ?_); rintro e w' ⟨rfl, ⟨nd, rfl⟩⟩; refine ⟨_, rfl, ?_⟩))
      go_ret
      exact ⟨by first | rfl | (simp; done) | (simp [*]; done), by repeat (first | exact Drawn0.refl _ | apply Drawn0.step)⟩
    · rw [if_neg c4] at H
      have c4b0 : (t285 == 10) = false := beq_eq_false_iff_ne.mpr c4
      have c4b1 : (t285 != 10) = true := bne_iff_ne.mpr c4
      by_cases c5 : t285 = 11
      · rw [if_pos c5] at H
        have c5b0 : (t285 == 11) = true := beq_iff_eq.mpr c5
        have c5b1 : (t285 != 11) = false := bne_eq_false_iff_eq.mpr c5
        clear c5
        obtain rfl := Option.some.inj H
        go_enter Try.func38, Try.ntmps38
        go_wp2_with (first | ((with_reducible refine gate_callee (f := 39) rfl ?_); refine goesL_ (some 5) rfl rfl Try.func39 (by kernel_rfl) rfl #[.int .i64 a0] rfl (by (try simp only [List.map_toArray, List.map_cons, List.map_nil]); first | done | rfl | (simp only [List.length_drop, List.length_take]; rfl)) ?_; (with_reducible refine (abugidaref05_Class.calls k a0 t285 _ A2.out).mono ?_); rintro e w' ⟨rfl, ⟨nd, rfl⟩⟩; refine ⟨_, rfl, ?_⟩))
        go_ret
        exact ⟨by first | rfl | (simp; done) | (simp [*]; done), by repeat (first | exact Drawn0.refl _ | apply Drawn0.step)⟩
      · rw [if_neg c5] at H
        have c5b0 : (t285 == 11) = false := beq_eq_false_iff_ne.mpr c5
        have c5b1 : (t285 != 11) = true := bne_iff_ne.mpr c5
        by_cases c6 : t285 = 12
        · rw [if_pos c6] at H
          have c6b0 : (t285 == 12) = true := beq_iff_eq.mpr c6
          have c6b1 : (t285 != 12) = false := bne_eq_false_iff_eq.mpr c6
          clear c6
          obtain rfl := Option.some.inj H
          go_enter Try.func38, Try.ntmps38
          go_wp2_with (first | ((with_reducible refine gate_callee (f := 39) rfl ?_); refine goesL_ (some 5) rfl rfl Try.func39 (by kernel_rfl) rfl #[.int .i64 a0] rfl (by (try simp only [List.map_toArray, List.map_cons, List.map_nil]); first | done | rfl | (simp only [List.length_drop, List.length_take]; rfl)) ?_; (with_reducible refine (abugidaref05_Class.calls k a0 t285 _ A2.out).mono ?_); rintro e w' ⟨rfl, ⟨nd, rfl⟩⟩; refine ⟨_, rfl, ?_⟩))
          go_ret
          exact ⟨by first | rfl | (simp; done) | (simp [*]; done), by repeat (first | exact Drawn0.refl _ | apply Drawn0.step)⟩
        · rw [if_neg c6] at H
          have c6b0 : (t285 == 12) = false := beq_eq_false_iff_ne.mpr c6
          have c6b1 : (t285 != 12) = true := bne_iff_ne.mpr c6
          by_cases c7 : t285 = 13
          · rw [if_pos c7] at H
            have c7b0 : (t285 == 13) = true := beq_iff_eq.mpr c7
            have c7b1 : (t285 != 13) = false := bne_eq_false_iff_eq.mpr c7
            clear c7
            obtain rfl := Option.some.inj H
            go_enter Try.func38, Try.ntmps38
            go_wp2_with (first | ((with_reducible refine gate_callee (f := 39) rfl ?_); refine goesL_ (some 5) rfl rfl Try.func39 (by kernel_rfl) rfl #[.int .i64 a0] rfl (by (try simp only [List.map_toArray, List.map_cons, List.map_nil]); first | done | rfl | (simp only [List.length_drop, List.length_take]; rfl)) ?_; (with_reducible refine (abugidaref05_Class.calls k a0 t285 _ A2.out).mono ?_); rintro e w' ⟨rfl, ⟨nd, rfl⟩⟩; refine ⟨_, rfl, ?_⟩))
            go_ret
            exact ⟨by first | rfl | (simp; done) | (simp [*]; done), by repeat (first | exact Drawn0.refl _ | apply Drawn0.step)⟩
          · rw [if_neg c7] at H
            have c7b0 : (t285 == 13) = false := beq_eq_false_iff_ne.mpr c7
            have c7b1 : (t285 != 13) = true := bne_iff_ne.mpr c7
            obtain rfl := Option.some.inj H
            go_enter Try.func38, Try.ntmps38
            go_wp2_with (first | ((with_reducible refine gate_callee (f := 39) rfl ?_); refine goesL_ (some 5) rfl rfl Try.func39 (by kernel_rfl) rfl #[.int .i64 a0] rfl (by (try simp only [List.map_toArray, List.map_cons, List.map_nil]); first | done | rfl | (simp only [List.length_drop, List.length_take]; rfl)) ?_; (with_reducible refine (abugidaref05_Class.calls k a0 t285 _ A2.out).mono ?_); rintro e w' ⟨rfl, ⟨nd, rfl⟩⟩; refine ⟨_, rfl, ?_⟩))
            go_ret
            exact ⟨by first | rfl | (simp; done) | (simp [*]; done), by repeat (first | exact Drawn0.refl _ | apply Drawn0.step)⟩

/-! ### abugidaref06_class: function 44 -/
def abugidaref06_class.f (k : Nat) (a0 : ByteArray) (a1 : Int) : Option (Int) := if 0 ≤ a1 then (if a1 < (a0.size : Int) then ((abugidaref05_Class.f k (wrap64 (bt a0 a1))).bind fun t286 => (some t286)) else (none)) else (none)
theorem abugidaref06_class.mono : ∀ a0 a1 k, LeO (abugidaref06_class.f k a0 a1) (abugidaref06_class.f (k + 1) a0 a1) := by
  intro a0 a1 k
  unfold abugidaref06_class.f
  repeat' first
      | (with_reducible exact abugidaref05_Class.mono _ _)
      | (with_reducible exact LeO.refl _)
      | (with_reducible exact LeO.none _)
      | (with_reducible refine LeO.ite ?_ ?_)
      | (with_reducible refine LeO.bind ?_ (fun _ => ?_))
      | exact abugidaref05_Class.mono _ _
      | exact LeO.none _
      | refine LeO.ite ?_ ?_
      | refine LeO.bind ?_ (fun _ => ?_)
set_option maxHeartbeats 8000000 in
set_option maxRecDepth 100000 in
theorem abugidaref06_class.calls (k : Nat) (a0 : ByteArray) (a1 : Int) (r : Int) (w : World) (h : abugidaref06_class.f k a0 a1 = some r) :
    Calls Try.prog 44 #[.string a0, .int .i64 a1] w fun e w' => e = .returned (.int .i64 r) ∧ Drawn0 w w' := by
  have H : (if 0 ≤ a1 then (if a1 < (a0.size : Int) then ((abugidaref05_Class.f k (wrap64 (bt a0 a1))).bind fun t286 => (some t286)) else (none)) else (none)) = some r := h
  clear h
  by_cases c3 : 0 ≤ a1
  · rw [if_pos c3] at H
    have c3b0 : decide (0 ≤ a1) = true := decide_eq_true c3
    clear c3
    by_cases c4 : a1 < (a0.size : Int)
    · rw [if_pos c4] at H
      have c4b0 : decide (a1 < (a0.size : Int)) = true := decide_eq_true c4
      clear c4
      replace H := Option.bind_eq_some_iff.mp H
      obtain ⟨t286, A60, H⟩ := H
      replace H : (some t286) = some r := H
      have A6 := Aside0.mk A60
      clear A60
      obtain rfl := Option.some.inj H
      have p5 : 0 ≤ (a1 : Int) := of_decide_eq_true (by first | (with_reducible assumption) | assumption)
      have q5 : a1 < (a0.size : Int) := of_decide_eq_true (by first | (with_reducible assumption) | assumption)
      have hx5 := bt_at a0 a1
      replace p5 := eq_true p5
      replace q5 := eq_true q5
      go_enter Try.func44, Try.ntmps44
      go_wp2_with (first | ((with_reducible refine gate_callee (f := 39) rfl ?_); refine goesL_ (some 9) rfl rfl Try.func39 (by kernel_rfl) rfl #[.int .i64 (wrap64 (bt a0 a1))] rfl (by (try simp only [List.map_toArray, List.map_cons, List.map_nil]); first | done | rfl | (simp only [List.length_drop, List.length_take]; rfl)) ?_; (with_reducible refine (abugidaref05_Class.calls k (wrap64 (bt a0 a1)) t286 _ A6.out).mono ?_); rintro e w' ⟨rfl, ⟨nd, rfl⟩⟩; refine ⟨_, rfl, ?_⟩))
      go_ret
      exact ⟨by first | rfl | (simp; done) | (simp [*]; done), by repeat (first | exact Drawn0.refl _ | apply Drawn0.step)⟩
    · rw [if_neg c4] at H
      exact absurd H (by simp)
  · rw [if_neg c3] at H
    exact absurd H (by simp)

end Go.Proofs.Ythllgpjjjegenaa.Q

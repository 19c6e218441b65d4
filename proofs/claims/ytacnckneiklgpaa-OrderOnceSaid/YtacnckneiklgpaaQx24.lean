-- Written by wip/tools/myprint.py, a program of this session that drives the kit's print.py; not a text of print.sh.
import Derived.Test.YtacnckneiklgpaaQx0
import Derived.Test.YtacnckneiklgpaaQx13
import Derived.Test.YtacnckneiklgpaaQx14
import Derived.Test.YtacnckneiklgpaaQx23
namespace Go.Proofs.Ytacnckneiklgpaa.Q
open Go.RowKit Go.Proofs.YtacnckneiklgpaaW.PrintWords Go.Proofs.YtacnckneiklgpaaW.PrintLast Go.Proofs.YtacnckneiklgpaaW.PrintMore
attribute [local go_sem] max2_int min2_int max_two min_two max_three min_three max_four min_four   -- for this text's walks alone
set_option linter.unusedVariables false
set_option linter.unusedSimpArgs false

/-! ### abugidalaw07_OrderOnce: function 6 -/
mutual
def abugidalaw07_OrderOnce.l0 : Nat → Bool → List Int → List Int → Int → Int → Option (Bool)
  | 0, _, _, _, _, _ => none
  | k + 1, x3, x4, x18, x19, x20 => if x20 < x19 then (if 0 ≤ x20 then (if x20 < (x18.length : Int) then ((abugidaref01_Mod.f (rd x18 x20) 10).bind fun t430 => (if x4.length < 17592186044416 then (abugidalaw07_OrderOnce.l0 k x3 (x4 ++ [t430]) x18 x19 (wrap64 (x20 + 1))) else (none))) else (none)) else (none)) else ((order_Visual.f x4).bind fun t434 => (if (t434.length : Int) = (x4.length : Int) then (if 0 ≤ (x4.length : Int) then (if ((x4.length : Int) : Int).toNat ≤ 35184372088832 then (if ((x4.length : Int) : Int).toNat ≤ 281474976710656 then (abugidalaw07_OrderOnce.l1 k x3 x4 (List.replicate ((x4.length : Int) : Int).toNat 0) (List.replicate ((x4.length : Int) : Int).toNat false) t434 (t434.length : Int) 0) else (none)) else (none)) else (none)) else (some false)))
def abugidalaw07_OrderOnce.l1 : Nat → Bool → List Int → List Int → List Bool → List Int → Int → Int → Option (Bool)
  | 0, _, _, _, _, _, _, _ => none
  | k + 1, x3, x4, x8, x9, x43, x44, x45 => if x45 < x44 then (if 0 ≤ x45 then (if x45 < (x43.length : Int) then (if (rd x43 x45) < 0 then (some false) else (if (rd x43 x45) ≥ (x4.length : Int) then (some false) else (if 0 ≤ (rd x43 x45) then (if (rd x43 x45) < (x9.length : Int) then (if rdOf false x9 (rd x43 x45) = true then (some false) else (if (rd x43 x45) < (x8.length : Int) then (abugidalaw07_OrderOnce.l1 k x3 x4 (x8.set ((rd x43 x45) : Int).toNat x45) (x9.set ((rd x43 x45) : Int).toNat true) x43 x44 (wrap64 (x45 + 1))) else (none))) else (none)) else (none)))) else (none)) else (none)) else (abugidalaw07_OrderOnce.l2 k x3 x4 x8 1)
def abugidalaw07_OrderOnce.l2 : Nat → Bool → List Int → List Int → Int → Option (Bool)
  | 0, _, _, _, _ => none
  | k + 1, x3, x4, x8, x12 => if x12 < (x4.length : Int) then (if 0 ≤ (wrap64 (x12 - 1)) then (if (wrap64 (x12 - 1)) < (x4.length : Int) then (if 0 ≤ x12 then (if (rd x4 (wrap64 (x12 - 1))) = (rd x4 x12) then (if x12 < (x8.length : Int) then (if (wrap64 (x12 - 1)) < (x8.length : Int) then (if (rd x8 x12) = (wrap64 ((wrap64 ((rd x8 (wrap64 (x12 - 1))) + 1)) - (wrap64 (2 * (Int.tmod (rd x4 x12) 2))))) then (abugidalaw07_OrderOnce.l2 k x3 x4 x8 (wrap64 (x12 + 1))) else (some false)) else (none)) else (none)) else (abugidalaw07_OrderOnce.l2 k x3 x4 x8 (wrap64 (x12 + 1)))) else (none)) else (none)) else (none)) else (some x3)
end
def abugidalaw07_OrderOnce.f (k : Nat) (l0 : List Int) : Option (Bool) := (abugidalaw07_sanity.f k).bind fun t427 => (if 0 ≤ (mn (l0.length : Int) 60) then (if (mn (l0.length : Int) 60) ≤ (l0.length : Int) then (abugidalaw07_OrderOnce.l0 k t427 ([] : List Int) (l0.take ((mn (l0.length : Int) 60) : Int).toNat) ((l0.take ((mn (l0.length : Int) 60) : Int).toNat).length : Int) 0) else (none)) else (none))
theorem abugidalaw07_OrderOnce.mono_l : ∀ k, (∀ y0 y1 y2 y3 y4, LeO (abugidalaw07_OrderOnce.l0 k y0 y1 y2 y3 y4) (abugidalaw07_OrderOnce.l0 (k + 1) y0 y1 y2 y3 y4)) ∧ (∀ y0 y1 y2 y3 y4 y5 y6, LeO (abugidalaw07_OrderOnce.l1 k y0 y1 y2 y3 y4 y5 y6) (abugidalaw07_OrderOnce.l1 (k + 1) y0 y1 y2 y3 y4 y5 y6)) ∧ (∀ y0 y1 y2 y3, LeO (abugidalaw07_OrderOnce.l2 k y0 y1 y2 y3) (abugidalaw07_OrderOnce.l2 (k + 1) y0 y1 y2 y3))
  | 0 => ⟨fun _ _ _ _ _ r h => by simp [abugidalaw07_OrderOnce.l0] at h, fun _ _ _ _ _ _ _ r h => by simp [abugidalaw07_OrderOnce.l1] at h, fun _ _ _ _ r h => by simp [abugidalaw07_OrderOnce.l2] at h⟩
  | k + 1 => by
    obtain ⟨ih0, ih1, ih2⟩ := abugidalaw07_OrderOnce.mono_l k
    refine ⟨?_, ?_, ?_⟩
    · intro y0 y1 y2 y3 y4
      unfold abugidalaw07_OrderOnce.l0
      repeat' first
      | (with_reducible exact ih0 _ _ _ _ _)
      | (with_reducible exact ih1 _ _ _ _ _ _ _)
      | (with_reducible exact ih2 _ _ _ _)
      | (with_reducible exact abugidalaw07_sanity.mono _)
      | (with_reducible exact LeO.refl _)
      | (with_reducible exact LeO.none _)
      | (with_reducible refine LeO.ite ?_ ?_)
      | (with_reducible refine LeO.bind ?_ (fun _ => ?_))
      | exact ih0 _ _ _ _ _
      | exact ih1 _ _ _ _ _ _ _
      | exact ih2 _ _ _ _
      | exact abugidalaw07_sanity.mono _
      | exact LeO.none _
      | refine LeO.ite ?_ ?_
      | refine LeO.bind ?_ (fun _ => ?_)
    · intro y0 y1 y2 y3 y4 y5 y6
      unfold abugidalaw07_OrderOnce.l1
      repeat' first
      | (with_reducible exact ih0 _ _ _ _ _)
      | (with_reducible exact ih1 _ _ _ _ _ _ _)
      | (with_reducible exact ih2 _ _ _ _)
      | (with_reducible exact abugidalaw07_sanity.mono _)
      | (with_reducible exact LeO.refl _)
      | (with_reducible exact LeO.none _)
      | (with_reducible refine LeO.ite ?_ ?_)
      | (with_reducible refine LeO.bind ?_ (fun _ => ?_))
      | exact ih0 _ _ _ _ _
      | exact ih1 _ _ _ _ _ _ _
      | exact ih2 _ _ _ _
      | exact abugidalaw07_sanity.mono _
      | exact LeO.none _
      | refine LeO.ite ?_ ?_
      | refine LeO.bind ?_ (fun _ => ?_)
    · intro y0 y1 y2 y3
      unfold abugidalaw07_OrderOnce.l2
      repeat' first
      | (with_reducible exact ih0 _ _ _ _ _)
      | (with_reducible exact ih1 _ _ _ _ _ _ _)
      | (with_reducible exact ih2 _ _ _ _)
      | (with_reducible exact abugidalaw07_sanity.mono _)
      | (with_reducible exact LeO.refl _)
      | (with_reducible exact LeO.none _)
      | (with_reducible refine LeO.ite ?_ ?_)
      | (with_reducible refine LeO.bind ?_ (fun _ => ?_))
      | exact ih0 _ _ _ _ _
      | exact ih1 _ _ _ _ _ _ _
      | exact ih2 _ _ _ _
      | exact abugidalaw07_sanity.mono _
      | exact LeO.none _
      | refine LeO.ite ?_ ?_
      | refine LeO.bind ?_ (fun _ => ?_)
theorem abugidalaw07_OrderOnce.mono : ∀ a0 k, LeO (abugidalaw07_OrderOnce.f k a0) (abugidalaw07_OrderOnce.f (k + 1) a0) := by
  intro a0 k
  obtain ⟨ih0, ih1, ih2⟩ := abugidalaw07_OrderOnce.mono_l k
  unfold abugidalaw07_OrderOnce.f
  repeat' first
      | (with_reducible exact ih0 _ _ _ _ _)
      | (with_reducible exact ih1 _ _ _ _ _ _ _)
      | (with_reducible exact ih2 _ _ _ _)
      | (with_reducible exact abugidalaw07_sanity.mono _)
      | (with_reducible exact LeO.refl _)
      | (with_reducible exact LeO.none _)
      | (with_reducible refine LeO.ite ?_ ?_)
      | (with_reducible refine LeO.bind ?_ (fun _ => ?_))
      | exact ih0 _ _ _ _ _
      | exact ih1 _ _ _ _ _ _ _
      | exact ih2 _ _ _ _
      | exact abugidalaw07_sanity.mono _
      | exact LeO.none _
      | refine LeO.ite ?_ ?_
      | refine LeO.bind ?_ (fun _ => ?_)
set_option maxHeartbeats 8000000 in
set_option maxRecDepth 100000 in
theorem abugidalaw07_OrderOnce.calls (k : Nat) (A0 : Option Addr) (c0 : Nat) (l0 : List Int) (r : Bool) (w : World) (hr0 : Kd.C (Kd.int .i64) w A0 l0.length l0) (hc0 : l0.length ≤ c0) (h : abugidalaw07_OrderOnce.f k l0 = some r) :
    Calls Try.prog 6 #[.slice A0 l0.length c0] w fun e w' => e = .returned (.bool r) ∧ Below w.heap.size w w' := by
  have HR0 := Aside0.mk hr0
  have HC0 := Aside0.mk hc0
  clear hr0 hc0
  have HB := Aside0.mk (Below.refl w.heap.size w)
  have H : ((abugidalaw07_sanity.f k).bind fun t427 => (if 0 ≤ (mn (l0.length : Int) 60) then (if (mn (l0.length : Int) 60) ≤ (l0.length : Int) then (abugidalaw07_OrderOnce.l0 k t427 ([] : List Int) (l0.take ((mn (l0.length : Int) 60) : Int).toNat) ((l0.take ((mn (l0.length : Int) 60) : Int).toNat).length : Int) 0) else (none)) else (none))) = some r := h
  clear h
  replace H := Option.bind_eq_some_iff.mp H
  obtain ⟨t427, A20, H⟩ := H
  replace H : (if 0 ≤ (mn (l0.length : Int) 60) then (if (mn (l0.length : Int) 60) ≤ (l0.length : Int) then (abugidalaw07_OrderOnce.l0 k t427 ([] : List Int) (l0.take ((mn (l0.length : Int) 60) : Int).toNat) ((l0.take ((mn (l0.length : Int) 60) : Int).toNat).length : Int) 0) else (none)) else (none)) = some r := H
  have A2 := Aside0.mk A20
  clear A20
  obtain ⟨ji3, hji3⟩ : ∃ j_ : Int, (mn (l0.length : Int) 60) = j_ := ⟨_, rfl⟩
  replace H : (if 0 ≤ (ji3) then (if (ji3) ≤ (l0.length : Int) then (abugidalaw07_OrderOnce.l0 k t427 ([] : List Int) (l0.take ((ji3) : Int).toNat) ((l0.take ((ji3) : Int).toNat).length : Int) 0) else (none)) else (none)) = some r := by first | (rw [hji3] at H; exact H) | (simp only [hji3] at H ⊢; exact H)
  (try rw [hji3] at A2)
  (try (have hji3h : ji3 ≤ 60 := by (rw [← hji3]; unfold mn; (repeat' split) <;> omega)))
  (try (have hji3g : ji3 ≤ 64 := by omega))
  (try (have hji3l : 0 ≤ ji3 := by (rw [← hji3]; unfold mn; (repeat' split) <;> omega)))
  (try (have hji3m : 0 ≤ ji3 := by omega))
  have hji3_ : (if 60 < (l0.length : Int) then 60 else (l0.length : Int)) = ji3 := hji3
  by_cases c4 : 0 ≤ (ji3)
  · rw [if_pos c4] at H
    have c4b0 := eq_true c4
    have c4b1 : decide (0 ≤ (ji3)) = true := decide_eq_true c4
    clear c4
    by_cases c5 : (ji3) ≤ (l0.length : Int)
    · rw [if_pos c5] at H
      have c5b0 := eq_true c5
      have c5b1 : decide ((ji3) ≤ (l0.length : Int)) = true := decide_eq_true c5
      clear c5
      have H' := Aside0.mk H
      clear H
      go_enter Try.func6, Try.ntmps6
      go_wp2_with (first | (go_at_call 9; (with_reducible refine (abugidalaw07_sanity.calls k  t427 _ A2.out).mono ?_); rintro e w6 ⟨rfl, hb⟩; have n0_ := Aside0.mk (below_step (by repeat (first | (with_reducible first | exact HB.out | apply below_alloc | apply pw_below_drewN | apply below_drew1) | exact HB.out)) hb); clear HB; have HB := n0_; clear n0_; (try clear hb); (try clear hb2); (try clear hk); (try clear hi); obtain ⟨i07, hi07, _, hsz7, _⟩ := info_parts info3; obtain ⟨hcut7, hA7, hC7⟩ := print_take_of (P := Try.prog) (Value.int .i64) 0 26 3 .i64 Try.underlying26 hi07 hsz7 A0 c0 l0 (ji3) (of_decide_eq_true (by first | (with_reducible assumption) | assumption)) (of_decide_eq_true (by first | (with_reducible assumption) | assumption)) HC0.out; have HR428 := Aside0.mk (Kd.C_of_reads (h1 := fun _ => rfl) (hA7 _ (Kd.reads_of_C HR0.out))); have HC428 := Aside0.mk hC7; clear hA7 hC7 hi07 hsz7))
      repeat (go_quiet (first | (go_at_call 9; (with_reducible refine (abugidalaw07_sanity.calls k  t427 _ A2.out).mono ?_); rintro e w6 ⟨rfl, hb⟩; have n0_ := Aside0.mk (below_step (by repeat (first | (with_reducible first | exact HB.out | apply below_alloc | apply pw_below_drewN | apply below_drew1) | exact HB.out)) hb); clear HB; have HB := n0_; clear n0_; (try clear hb); (try clear hb2); (try clear hk); (try clear hi); obtain ⟨i07, hi07, _, hsz7, _⟩ := info_parts info3; obtain ⟨hcut7, hA7, hC7⟩ := print_take_of (P := Try.prog) (Value.int .i64) 0 26 3 .i64 Try.underlying26 hi07 hsz7 A0 c0 l0 (ji3) (of_decide_eq_true (by first | (with_reducible assumption) | assumption)) (of_decide_eq_true (by first | (with_reducible assumption) | assumption)) HC0.out; have HR428 := Aside0.mk (Kd.C_of_reads (h1 := fun _ => rfl) (hA7 _ (Kd.reads_of_C HR0.out))); have HC428 := Aside0.mk hC7; clear hA7 hC7 hi07 hsz7)); try go_wp2_with (first | (go_at_call 9; (with_reducible refine (abugidalaw07_sanity.calls k  t427 _ A2.out).mono ?_); rintro e w6 ⟨rfl, hb⟩; have n0_ := Aside0.mk (below_step (by repeat (first | (with_reducible first | exact HB.out | apply below_alloc | apply pw_below_drewN | apply below_drew1) | exact HB.out)) hb); clear HB; have HB := n0_; clear n0_; (try clear hb); (try clear hb2); (try clear hk); (try clear hi); obtain ⟨i07, hi07, _, hsz7, _⟩ := info_parts info3; obtain ⟨hcut7, hA7, hC7⟩ := print_take_of (P := Try.prog) (Value.int .i64) 0 26 3 .i64 Try.underlying26 hi07 hsz7 A0 c0 l0 (ji3) (of_decide_eq_true (by first | (with_reducible assumption) | assumption)) (of_decide_eq_true (by first | (with_reducible assumption) | assumption)) HC0.out; have HR428 := Aside0.mk (Kd.C_of_reads (h1 := fun _ => rfl) (hA7 _ (Kd.reads_of_C HR0.out))); have HC428 := Aside0.mk hC7; clear hA7 hC7 hi07 hsz7)))
      go_loopg [4, 20] k (fun kq v4 v20 w' => ∃ (x4_1 : List Int) (x20_1 : Int), v20 = .int .i64 x20_1 ∧ Aside0 (abugidalaw07_OrderOnce.l0 kq t427 x4_1 (l0.take ((ji3) : Int).toNat) ((l0.take ((ji3) : Int).toNat).length : Int) x20_1 = some r) ∧ Aside0 (kq ≤ k) ∧ Aside0 (Kd.R (Kd.int .i64) 3 w' w.heap.size (fun _ => True) v4 x4_1) ∧ Aside0 (Below w.heap.size w w'))
      case atStart => exact ⟨(([] : List Int)), (0), (by first | rfl | (simp; done) | (simp [*]; done)), H', ⟨Nat.le_refl _⟩, ⟨by first | exact Kd.R_nil _ _ _ _ _ | exact Kd.N_nil _ _ _ _ _ | exact Kd.V_nil _ _ _ _ _ | exact Kd.Q_nil _ _ _ _ _ | exact Kd.S_nil _ _ _ _ _⟩, ⟨by repeat (first | (with_reducible first | exact HB.out | apply below_alloc | apply pw_below_drewN | apply below_drew1) | exact HB.out)⟩⟩
      case round =>
        clear H'
        try clear p2
        try clear c4
        try clear c4b0
        try clear c4b1
        try clear c5
        try clear c5b0
        try clear c5b1
        try clear c6
        obtain ⟨x4_1, x20_1, rfl, HA, HK1, HO_4, HB⟩ := hrel
        cases gk with
        | zero => exact absurd HA.out (by simp [abugidalaw07_OrderOnce.l0])
        | succ k1 =>
          have H := HA.out
          clear HA
          simp only [abugidalaw07_OrderOnce.l0] at H
          by_cases c8 : x20_1 < ((l0.take ((ji3) : Int).toNat).length : Int)
          · rw [if_pos c8] at H
            have c8b0 : decide (x20_1 < ((l0.take ((ji3) : Int).toNat).length : Int)) = true := decide_eq_true c8
            have c8b0m : decide (x20_1 < max ji3 0) = true := by
              have hq := hji3_
              have hq2 : ((l0.take ((ji3) : Int).toNat).length : Int) = max ji3 0 := by rw [List.length_take]; split at hq <;> omega
              rw [← hq2]; exact c8b0
            have c8b0t : (x20_1 < max ji3 0) = True := eq_true (of_decide_eq_true c8b0m)
            have c8b0u : (x20_1 < ji3) = True := eq_true (by have := of_decide_eq_true c8b0m; omega)
            clear c8
            by_cases c9 : 0 ≤ x20_1
            · rw [if_pos c9] at H
              have c9b0 : decide (0 ≤ x20_1) = true := decide_eq_true c9
              clear c9
              by_cases c10 : x20_1 < ((l0.take ((ji3) : Int).toNat).length : Int)
              · rw [if_pos c10] at H
                have c10b0 : decide (x20_1 < ((l0.take ((ji3) : Int).toNat).length : Int)) = true := decide_eq_true c10
                have c10b0m : decide (x20_1 < max ji3 0) = true := by
                  have hq := hji3_
                  have hq2 : ((l0.take ((ji3) : Int).toNat).length : Int) = max ji3 0 := by rw [List.length_take]; split at hq <;> omega
                  rw [← hq2]; exact c10b0
                have c10b0t : (x20_1 < max ji3 0) = True := eq_true (of_decide_eq_true c10b0m)
                have c10b0u : (x20_1 < ji3) = True := eq_true (by have := of_decide_eq_true c10b0m; omega)
                clear c10
                replace H := Option.bind_eq_some_iff.mp H
                obtain ⟨t430, A110, H⟩ := H
                replace H : (if x4_1.length < 17592186044416 then (abugidalaw07_OrderOnce.l0 k1 t427 (x4_1 ++ [t430]) (l0.take ((ji3) : Int).toNat) ((l0.take ((ji3) : Int).toNat).length : Int) (wrap64 (x20_1 + 1))) else (none)) = some r := H
                have A11 := Aside0.mk A110
                clear A110
                by_cases c12 : x4_1.length < 17592186044416
                · rw [if_pos c12] at H
                  have LMc12 := Aside0.mk c12
                  clear c12
                  obtain ⟨y431, hy431⟩ : ∃ y_ : List Int, y_ = (x4_1 ++ [t430]) := ⟨_, rfl⟩
                  replace H : (abugidalaw07_OrderOnce.l0 k1 t427 y431 (l0.take ((ji3) : Int).toNat) ((l0.take ((ji3) : Int).toNat).length : Int) (wrap64 (x20_1 + 1))) = some r := by first | (rw [hy431]; with_reducible exact H) | (have H2_ := (Option.bind_some _ _).symm.trans H; rw [hy431]; with_reducible exact H2_) | (have H2_ := (Option.bind_some _ _).symm.trans H; with_reducible exact H2_) | with_reducible exact H | (rw [hy431]; exact H) | exact H
                  have Ny431 := Aside0.mk hy431
                  clear hy431
                  have H' := Aside0.mk H
                  clear H
                  have p429 : 0 ≤ (x20_1 : Int) := of_decide_eq_true (by first | (with_reducible assumption) | assumption)
                  have q429 : x20_1 < ((l0.take ((ji3) : Int).toNat).length : Int) := of_decide_eq_true (by first | (with_reducible assumption) | assumption)
                  obtain ⟨ad429, e429, hx429_0⟩ := Kd.at_int HR428.out x20_1 p429 q429
                  cases e429
                  replace hx429_0 := (HB.out.cell (World.block_lt_of_cell? w _ hx429_0)).trans hx429_0
                  replace p429 := eq_true p429
                  replace q429 := eq_true q429
                  go_wp2_with (first | (go_at_call 23; (with_reducible refine (abugidaref01_Mod.calls (rd (l0.take ((ji3) : Int).toNat) x20_1) 10 t430 _ A11.out).mono ?_); rintro e w' ⟨rfl, ⟨nd, rfl⟩⟩; (try first | exact ⟨rfl, _, World.drewN_drewN _ _ _⟩ | exact ⟨rfl, _, Eq.trans (World.drewN_drewN _ _ _) (congrArg (World.drewN _) (Nat.add_assoc _ _ _))⟩)) | ((with_reducible refine gate_builtin (b := .append) (xs := #[.tmp 24, .tmp 27]) rfl ?_); (try (refine gate_guard (by rfl) ?_; dsimp only)); at_builtin; refine Kd.R_append (Kd.int .i64) (w0 := w) w.heap.size rfl (.tmp 24) (.tmp 27) 26 3 (.int .i64 0) 8 rfl Try.underlying26 info3 rfl (by decide) (by omega) u4 x4_1 t430 [.int .i64 t430] (fun _ => True) (fun _ => False) rfl rfl ?aP (fun _ hk => hk.elim) ?aF ?aO ?aB ?aS ?aL ?_; (case aP => exact rfl); (case aB => exact (by repeat (first | (with_reducible first | exact HB.out | apply below_alloc | apply pw_below_drewN | apply below_drew1) | exact HB.out))); (case aF => exact (fun _ _ => trivial)); (case aO => exact (by (with_reducible repeat (first | apply Kd.R_alloc | apply Kd.R_drewN | apply Kd.R_drew)); exact HO_4.out)); (case aS => exact (below_size (by repeat (first | (with_reducible first | exact HB.out | apply below_alloc | apply pw_below_drewN | apply below_drew1) | exact HB.out)))); (case aL => have := LMc12.out; omega); intro v432 w13 ho hb hg hat; rw [← Ny431.out] at ho; have n0_ := Aside0.mk (hb); have n1_ := Aside0.mk (ho); clear HB; clear HO_4; have HB := n0_; have HO433 := n1_; clear n0_ n1_; clear ho hb hg hat))
                  repeat (go_quiet (first | (go_at_call 23; (with_reducible refine (abugidaref01_Mod.calls (rd (l0.take ((ji3) : Int).toNat) x20_1) 10 t430 _ A11.out).mono ?_); rintro e w' ⟨rfl, ⟨nd, rfl⟩⟩; (try first | exact ⟨rfl, _, World.drewN_drewN _ _ _⟩ | exact ⟨rfl, _, Eq.trans (World.drewN_drewN _ _ _) (congrArg (World.drewN _) (Nat.add_assoc _ _ _))⟩)) | ((with_reducible refine gate_builtin (b := .append) (xs := #[.tmp 24, .tmp 27]) rfl ?_); (try (refine gate_guard (by rfl) ?_; dsimp only)); at_builtin; refine Kd.R_append (Kd.int .i64) (w0 := w) w.heap.size rfl (.tmp 24) (.tmp 27) 26 3 (.int .i64 0) 8 rfl Try.underlying26 info3 rfl (by decide) (by omega) u4 x4_1 t430 [.int .i64 t430] (fun _ => True) (fun _ => False) rfl rfl ?aP (fun _ hk => hk.elim) ?aF ?aO ?aB ?aS ?aL ?_; (case aP => exact rfl); (case aB => exact (by repeat (first | (with_reducible first | exact HB.out | apply below_alloc | apply pw_below_drewN | apply below_drew1) | exact HB.out))); (case aF => exact (fun _ _ => trivial)); (case aO => exact (by (with_reducible repeat (first | apply Kd.R_alloc | apply Kd.R_drewN | apply Kd.R_drew)); exact HO_4.out)); (case aS => exact (below_size (by repeat (first | (with_reducible first | exact HB.out | apply below_alloc | apply pw_below_drewN | apply below_drew1) | exact HB.out)))); (case aL => have := LMc12.out; omega); intro v432 w13 ho hb hg hat; rw [← Ny431.out] at ho; have n0_ := Aside0.mk (hb); have n1_ := Aside0.mk (ho); clear HB; clear HO_4; have HB := n0_; have HO433 := n1_; clear n0_ n1_; clear ho hb hg hat)); try go_wp2_with (first | (go_at_call 23; (with_reducible refine (abugidaref01_Mod.calls (rd (l0.take ((ji3) : Int).toNat) x20_1) 10 t430 _ A11.out).mono ?_); rintro e w' ⟨rfl, ⟨nd, rfl⟩⟩; (try first | exact ⟨rfl, _, World.drewN_drewN _ _ _⟩ | exact ⟨rfl, _, Eq.trans (World.drewN_drewN _ _ _) (congrArg (World.drewN _) (Nat.add_assoc _ _ _))⟩)) | ((with_reducible refine gate_builtin (b := .append) (xs := #[.tmp 24, .tmp 27]) rfl ?_); (try (refine gate_guard (by rfl) ?_; dsimp only)); at_builtin; refine Kd.R_append (Kd.int .i64) (w0 := w) w.heap.size rfl (.tmp 24) (.tmp 27) 26 3 (.int .i64 0) 8 rfl Try.underlying26 info3 rfl (by decide) (by omega) u4 x4_1 t430 [.int .i64 t430] (fun _ => True) (fun _ => False) rfl rfl ?aP (fun _ hk => hk.elim) ?aF ?aO ?aB ?aS ?aL ?_; (case aP => exact rfl); (case aB => exact (by repeat (first | (with_reducible first | exact HB.out | apply below_alloc | apply pw_below_drewN | apply below_drew1) | exact HB.out))); (case aF => exact (fun _ _ => trivial)); (case aO => exact (by (with_reducible repeat (first | apply Kd.R_alloc | apply Kd.R_drewN | apply Kd.R_drew)); exact HO_4.out)); (case aS => exact (below_size (by repeat (first | (with_reducible first | exact HB.out | apply below_alloc | apply pw_below_drewN | apply below_drew1) | exact HB.out)))); (case aL => have := LMc12.out; omega); intro v432 w13 ho hb hg hat; rw [← Ny431.out] at ho; have n0_ := Aside0.mk (hb); have n1_ := Aside0.mk (ho); clear HB; clear HO_4; have HB := n0_; have HO433 := n1_; clear n0_ n1_; clear ho hb hg hat)))
                  go_roundg k1
                  case measure => have := HK1.out; omega
                  case rel => exact ⟨(y431), (wrap64 (x20_1 + 1)), (by first | rfl | (simp; done) | (simp [*]; done)), H', ⟨by have := HK1.out; omega⟩, ⟨by (with_reducible repeat (first | apply Kd.R_alloc | apply Kd.R_drewN | apply Kd.R_drew)); exact HO433.out⟩, ⟨by repeat (first | (with_reducible first | exact HB.out | apply below_alloc | apply pw_below_drewN | apply below_drew1) | exact HB.out)⟩⟩
                · rw [if_neg c12] at H
                  exact absurd H (by simp)
              · rw [if_neg c10] at H
                exact absurd H (by simp)
            · rw [if_neg c9] at H
              exact absurd H (by simp)
          · rw [if_neg c8] at H
            have c8b0 : decide (x20_1 < ((l0.take ((ji3) : Int).toNat).length : Int)) = false := decide_eq_false c8
            have c8b0m : decide (x20_1 < max ji3 0) = false := by
              have hq := hji3_
              have hq2 : ((l0.take ((ji3) : Int).toNat).length : Int) = max ji3 0 := by rw [List.length_take]; split at hq <;> omega
              rw [← hq2]; exact c8b0
            clear c8
            replace H := Option.bind_eq_some_iff.mp H
            obtain ⟨t434, A140, H⟩ := H
            replace H : (if (t434.length : Int) = (x4_1.length : Int) then (if 0 ≤ (x4_1.length : Int) then (if ((x4_1.length : Int) : Int).toNat ≤ 35184372088832 then (if ((x4_1.length : Int) : Int).toNat ≤ 281474976710656 then (abugidalaw07_OrderOnce.l1 k1 t427 x4_1 (List.replicate ((x4_1.length : Int) : Int).toNat 0) (List.replicate ((x4_1.length : Int) : Int).toNat false) t434 (t434.length : Int) 0) else (none)) else (none)) else (none)) else (some false)) = some r := H
            have A14 := Aside0.mk A140
            clear A140
            by_cases c15 : (t434.length : Int) = (x4_1.length : Int)
            · rw [if_pos c15] at H
              have c15b0 : ((t434.length : Int) == (x4_1.length : Int)) = true := beq_iff_eq.mpr c15
              have c15b1 : ((t434.length : Int) != (x4_1.length : Int)) = false := bne_eq_false_iff_eq.mpr c15
              have c15b2 : (t434.length == x4_1.length) = true := by first | simpa using c15 | (simp at c15 ⊢; omega)
              clear c15
              by_cases c16 : 0 ≤ (x4_1.length : Int)
              · rw [if_pos c16] at H
                have c16b0 := eq_true c16
                have c16b1 : decide (0 ≤ (x4_1.length : Int)) = true := decide_eq_true c16
                clear c16
                by_cases c17 : ((x4_1.length : Int) : Int).toNat ≤ 35184372088832
                · rw [if_pos c17] at H
                  have c17b0 := eq_true c17
                  have c17b1 : decide (((x4_1.length : Int) : Int).toNat ≤ 35184372088832) = true := decide_eq_true c17
                  clear c17
                  obtain ⟨y437, hy437⟩ : ∃ y_ : List Int, y_ = (List.replicate ((x4_1.length : Int) : Int).toNat 0) := ⟨_, rfl⟩
                  replace H : (if ((x4_1.length : Int) : Int).toNat ≤ 281474976710656 then (abugidalaw07_OrderOnce.l1 k1 t427 x4_1 y437 (List.replicate ((x4_1.length : Int) : Int).toNat false) t434 (t434.length : Int) 0) else (none)) = some r := by first | (rw [hy437]; with_reducible exact H) | (have H2_ := (Option.bind_some _ _).symm.trans H; rw [hy437]; with_reducible exact H2_) | (have H2_ := (Option.bind_some _ _).symm.trans H; with_reducible exact H2_) | with_reducible exact H | (rw [hy437]; exact H) | exact H
                  have Ny437 := Aside0.mk hy437
                  clear hy437
                  by_cases c18 : ((x4_1.length : Int) : Int).toNat ≤ 281474976710656
                  · rw [if_pos c18] at H
                    have c18b0 := eq_true c18
                    have c18b1 : decide (((x4_1.length : Int) : Int).toNat ≤ 281474976710656) = true := decide_eq_true c18
                    clear c18
                    obtain ⟨y440, hy440⟩ : ∃ y_ : List Bool, y_ = (List.replicate ((x4_1.length : Int) : Int).toNat false) := ⟨_, rfl⟩
                    replace H : (abugidalaw07_OrderOnce.l1 k1 t427 x4_1 y437 y440 t434 (t434.length : Int) 0) = some r := by first | (rw [hy440]; with_reducible exact H) | (have H2_ := (Option.bind_some _ _).symm.trans H; rw [hy440]; with_reducible exact H2_) | (have H2_ := (Option.bind_some _ _).symm.trans H; with_reducible exact H2_) | with_reducible exact H | (rw [hy440]; exact H) | exact H
                    have Ny440 := Aside0.mk hy440
                    clear hy440
                    have H' := Aside0.mk H
                    clear H
                    obtain ⟨Ao19, co19, eo19⟩ := Kd.R_slice HO_4.out
                    subst eo19
                    go_wp2_with (first | (go_at_call 24; (with_reducible refine (order_Visual.calls _ _ x4_1 t434 _ ?side1 ?side2 A14.out).mono ?_); (case side1 => repeat (first | exact (Kd.R_reads' HO_4.out).2.2 | (with_reducible refine Kd.C_alloc ?_ _) | (with_reducible refine Kd.C_drewN ?_ _) | (with_reducible refine Kd.C_drew ?_))); (case side2 => exact (Kd.R_reads' HO_4.out).2.1); rintro e w20 ⟨v435, rfl, ho0, hb⟩; have n0_ := Aside0.mk (Kd.R_elder' (by (with_reducible repeat (first | apply Kd.R_alloc | apply Kd.R_drewN | apply Kd.R_drew)); exact HO_4.out) (Kd.R_base ho0) hb); have n1_ := Aside0.mk (Kd.R_lower (Kd.R_new' ho0 (Kd.R_lt (by (with_reducible repeat (first | apply Kd.R_alloc | apply Kd.R_drewN | apply Kd.R_drew)); exact HO_4.out))) (below_size (by repeat (first | (with_reducible first | exact HB.out | apply below_alloc | apply pw_below_drewN | apply below_drew1) | exact HB.out)))); have n2_ := Aside0.mk (below_step (by repeat (first | (with_reducible first | exact HB.out | apply below_alloc | apply pw_below_drewN | apply below_drew1) | exact HB.out)) hb); clear HO_4; clear HB; have HO_4 := n0_; have HO436 := n1_; have HB := n2_; clear n0_ n1_ n2_; (try clear hb); (try clear hb2); (try clear hk); (try clear hi); (try clear ho0); obtain ⟨Ao21, co21, eo21⟩ := Kd.R_slice HO436.out; subst eo21) | ((with_reducible refine gate_dst (N := 39) rfl ?_); (try (refine gate_guard (by rfl) ?_; dsimp only)); refine Kd.R_make (Kd.int .i64) _ 3 rfl (N := 39) rfl 26 _ _ rfl (x4_1.length : Int) rfl rfl Try.underlying26 (.int .i64 0) 8 info3 rfl (by decide) (by omega) 0 (ok := fun _ => True) (okp := fun _ => True) rfl (fun _ hk => hk) trivial (of_decide_eq_true (by first | (with_reducible assumption) | assumption)) (Nat.le_trans (Nat.mul_le_mul_right _ (of_decide_eq_true (by first | (with_reducible assumption) | assumption) : (x4_1.length : Int).toNat ≤ 35184372088832)) (by omega)) (Below.refl _ _) (Nat.le_refl _) ?_; intro v438 w22 ho23 hb hg_ hnew_; clear hg_ hnew_; (first | rw [← Ny437.out] at ho23 | (simp only [Int.reduceToNat] at ho23; rw [← Ny437.out] at ho23)); have n0_ := Aside0.mk (Kd.R_elder' (by (with_reducible repeat (first | apply Kd.R_alloc | apply Kd.R_drewN | apply Kd.R_drew)); exact HO_4.out) (Kd.R_base ho23) hb); have n1_ := Aside0.mk (Kd.R_elder' (by (with_reducible repeat (first | apply Kd.R_alloc | apply Kd.R_drewN | apply Kd.R_drew)); exact HO436.out) (Kd.R_base ho23) hb); have n2_ := Aside0.mk (Kd.R_lower (Kd.R_new' (Kd.R_new' ho23 (Kd.R_lt (by (with_reducible repeat (first | apply Kd.R_alloc | apply Kd.R_drewN | apply Kd.R_drew)); exact HO_4.out))) (Kd.R_lt (by (with_reducible repeat (first | apply Kd.R_alloc | apply Kd.R_drewN | apply Kd.R_drew)); exact HO436.out))) (below_size (by repeat (first | (with_reducible first | exact HB.out | apply below_alloc | apply pw_below_drewN | apply below_drew1) | exact HB.out)))); have n3_ := Aside0.mk (below_step (by repeat (first | (with_reducible first | exact HB.out | apply below_alloc | apply pw_below_drewN | apply below_drew1) | exact HB.out)) hb); clear HO_4; clear HO436; clear HB; have HO_4 := n0_; have HO436 := n1_; have HO439 := n2_; have HB := n3_; clear n0_ n1_ n2_ n3_; clear hb ho23) | ((with_reducible refine gate_dst (N := 42) rfl ?_); (try (refine gate_guard (by rfl) ?_; dsimp only)); refine Kd.R_make Kd.bool _ 4 rfl (N := 42) rfl 38 _ _ rfl (x4_1.length : Int) rfl rfl Try.underlying38 (.bool false) 1 info4 rfl (by decide) (by omega) false (ok := fun _ => True) (okp := fun _ => True) rfl (fun _ hk => hk) trivial (of_decide_eq_true (by first | (with_reducible assumption) | assumption)) (Nat.le_trans (Nat.mul_le_mul_right _ (of_decide_eq_true (by first | (with_reducible assumption) | assumption) : (x4_1.length : Int).toNat ≤ 281474976710656)) (by omega)) (Below.refl _ _) (Nat.le_refl _) ?_; intro v441 w24 ho25 hb hg_ hnew_; clear hg_ hnew_; (first | rw [← Ny440.out] at ho25 | (simp only [Int.reduceToNat] at ho25; rw [← Ny440.out] at ho25)); have n0_ := Aside0.mk (Kd.R_below (by (with_reducible repeat (first | apply Kd.R_alloc | apply Kd.R_drewN | apply Kd.R_drew)); exact HO_4.out) hb); have n1_ := Aside0.mk (Kd.R_below (by (with_reducible repeat (first | apply Kd.R_alloc | apply Kd.R_drewN | apply Kd.R_drew)); exact HO436.out) hb); have n2_ := Aside0.mk (Kd.R_below (by (with_reducible repeat (first | apply Kd.R_alloc | apply Kd.R_drewN | apply Kd.R_drew)); exact HO439.out) hb); have n3_ := Aside0.mk (Kd.R_lower ho25 (below_size (by repeat (first | (with_reducible first | exact HB.out | apply below_alloc | apply pw_below_drewN | apply below_drew1) | exact HB.out)))); have n4_ := Aside0.mk (below_step (by repeat (first | (with_reducible first | exact HB.out | apply below_alloc | apply pw_below_drewN | apply below_drew1) | exact HB.out)) hb); clear HO_4; clear HO436; clear HO439; clear HB; have HO_4 := n0_; have HO436 := n1_; have HO439 := n2_; have HO442 := n3_; have HB := n4_; clear n0_ n1_ n2_ n3_ n4_; clear hb ho25))
                    repeat (go_quiet (first | (go_at_call 24; (with_reducible refine (order_Visual.calls _ _ x4_1 t434 _ ?side1 ?side2 A14.out).mono ?_); (case side1 => repeat (first | exact (Kd.R_reads' HO_4.out).2.2 | (with_reducible refine Kd.C_alloc ?_ _) | (with_reducible refine Kd.C_drewN ?_ _) | (with_reducible refine Kd.C_drew ?_))); (case side2 => exact (Kd.R_reads' HO_4.out).2.1); rintro e w20 ⟨v435, rfl, ho0, hb⟩; have n0_ := Aside0.mk (Kd.R_elder' (by (with_reducible repeat (first | apply Kd.R_alloc | apply Kd.R_drewN | apply Kd.R_drew)); exact HO_4.out) (Kd.R_base ho0) hb); have n1_ := Aside0.mk (Kd.R_lower (Kd.R_new' ho0 (Kd.R_lt (by (with_reducible repeat (first | apply Kd.R_alloc | apply Kd.R_drewN | apply Kd.R_drew)); exact HO_4.out))) (below_size (by repeat (first | (with_reducible first | exact HB.out | apply below_alloc | apply pw_below_drewN | apply below_drew1) | exact HB.out)))); have n2_ := Aside0.mk (below_step (by repeat (first | (with_reducible first | exact HB.out | apply below_alloc | apply pw_below_drewN | apply below_drew1) | exact HB.out)) hb); clear HO_4; clear HB; have HO_4 := n0_; have HO436 := n1_; have HB := n2_; clear n0_ n1_ n2_; (try clear hb); (try clear hb2); (try clear hk); (try clear hi); (try clear ho0); obtain ⟨Ao21, co21, eo21⟩ := Kd.R_slice HO436.out; subst eo21) | ((with_reducible refine gate_dst (N := 39) rfl ?_); (try (refine gate_guard (by rfl) ?_; dsimp only)); refine Kd.R_make (Kd.int .i64) _ 3 rfl (N := 39) rfl 26 _ _ rfl (x4_1.length : Int) rfl rfl Try.underlying26 (.int .i64 0) 8 info3 rfl (by decide) (by omega) 0 (ok := fun _ => True) (okp := fun _ => True) rfl (fun _ hk => hk) trivial (of_decide_eq_true (by first | (with_reducible assumption) | assumption)) (Nat.le_trans (Nat.mul_le_mul_right _ (of_decide_eq_true (by first | (with_reducible assumption) | assumption) : (x4_1.length : Int).toNat ≤ 35184372088832)) (by omega)) (Below.refl _ _) (Nat.le_refl _) ?_; intro v438 w22 ho23 hb hg_ hnew_; clear hg_ hnew_; (first | rw [← Ny437.out] at ho23 | (simp only [Int.reduceToNat] at ho23; rw [← Ny437.out] at ho23)); have n0_ := Aside0.mk (Kd.R_elder' (by (with_reducible repeat (first | apply Kd.R_alloc | apply Kd.R_drewN | apply Kd.R_drew)); exact HO_4.out) (Kd.R_base ho23) hb); have n1_ := Aside0.mk (Kd.R_elder' (by (with_reducible repeat (first | apply Kd.R_alloc | apply Kd.R_drewN | apply Kd.R_drew)); exact HO436.out) (Kd.R_base ho23) hb); have n2_ := Aside0.mk (Kd.R_lower (Kd.R_new' (Kd.R_new' ho23 (Kd.R_lt (by (with_reducible repeat (first | apply Kd.R_alloc | apply Kd.R_drewN | apply Kd.R_drew)); exact HO_4.out))) (Kd.R_lt (by (with_reducible repeat (first | apply Kd.R_alloc | apply Kd.R_drewN | apply Kd.R_drew)); exact HO436.out))) (below_size (by repeat (first | (with_reducible first | exact HB.out | apply below_alloc | apply pw_below_drewN | apply below_drew1) | exact HB.out)))); have n3_ := Aside0.mk (below_step (by repeat (first | (with_reducible first | exact HB.out | apply below_alloc | apply pw_below_drewN | apply below_drew1) | exact HB.out)) hb); clear HO_4; clear HO436; clear HB; have HO_4 := n0_; have HO436 := n1_; have HO439 := n2_; have HB := n3_; clear n0_ n1_ n2_ n3_; clear hb ho23) | ((with_reducible refine gate_dst (N := 42) rfl ?_); (try (refine gate_guard (by rfl) ?_; dsimp only)); refine Kd.R_make Kd.bool _ 4 rfl (N := 42) rfl 38 _ _ rfl (x4_1.length : Int) rfl rfl Try.underlying38 (.bool false) 1 info4 rfl (by decide) (by omega) false (ok := fun _ => True) (okp := fun _ => True) rfl (fun _ hk => hk) trivial (of_decide_eq_true (by first | (with_reducible assumption) | assumption)) (Nat.le_trans (Nat.mul_le_mul_right _ (of_decide_eq_true (by first | (with_reducible assumption) | assumption) : (x4_1.length : Int).toNat ≤ 281474976710656)) (by omega)) (Below.refl _ _) (Nat.le_refl _) ?_; intro v441 w24 ho25 hb hg_ hnew_; clear hg_ hnew_; (first | rw [← Ny440.out] at ho25 | (simp only [Int.reduceToNat] at ho25; rw [← Ny440.out] at ho25)); have n0_ := Aside0.mk (Kd.R_below (by (with_reducible repeat (first | apply Kd.R_alloc | apply Kd.R_drewN | apply Kd.R_drew)); exact HO_4.out) hb); have n1_ := Aside0.mk (Kd.R_below (by (with_reducible repeat (first | apply Kd.R_alloc | apply Kd.R_drewN | apply Kd.R_drew)); exact HO436.out) hb); have n2_ := Aside0.mk (Kd.R_below (by (with_reducible repeat (first | apply Kd.R_alloc | apply Kd.R_drewN | apply Kd.R_drew)); exact HO439.out) hb); have n3_ := Aside0.mk (Kd.R_lower ho25 (below_size (by repeat (first | (with_reducible first | exact HB.out | apply below_alloc | apply pw_below_drewN | apply below_drew1) | exact HB.out)))); have n4_ := Aside0.mk (below_step (by repeat (first | (with_reducible first | exact HB.out | apply below_alloc | apply pw_below_drewN | apply below_drew1) | exact HB.out)) hb); clear HO_4; clear HO436; clear HO439; clear HB; have HO_4 := n0_; have HO436 := n1_; have HO439 := n2_; have HO442 := n3_; have HB := n4_; clear n0_ n1_ n2_ n3_ n4_; clear hb ho25)); try go_wp2_with (first | (go_at_call 24; (with_reducible refine (order_Visual.calls _ _ x4_1 t434 _ ?side1 ?side2 A14.out).mono ?_); (case side1 => repeat (first | exact (Kd.R_reads' HO_4.out).2.2 | (with_reducible refine Kd.C_alloc ?_ _) | (with_reducible refine Kd.C_drewN ?_ _) | (with_reducible refine Kd.C_drew ?_))); (case side2 => exact (Kd.R_reads' HO_4.out).2.1); rintro e w20 ⟨v435, rfl, ho0, hb⟩; have n0_ := Aside0.mk (Kd.R_elder' (by (with_reducible repeat (first | apply Kd.R_alloc | apply Kd.R_drewN | apply Kd.R_drew)); exact HO_4.out) (Kd.R_base ho0) hb); have n1_ := Aside0.mk (Kd.R_lower (Kd.R_new' ho0 (Kd.R_lt (by (with_reducible repeat (first | apply Kd.R_alloc | apply Kd.R_drewN | apply Kd.R_drew)); exact HO_4.out))) (below_size (by repeat (first | (with_reducible first | exact HB.out | apply below_alloc | apply pw_below_drewN | apply below_drew1) | exact HB.out)))); have n2_ := Aside0.mk (below_step (by repeat (first | (with_reducible first | exact HB.out | apply below_alloc | apply pw_below_drewN | apply below_drew1) | exact HB.out)) hb); clear HO_4; clear HB; have HO_4 := n0_; have HO436 := n1_; have HB := n2_; clear n0_ n1_ n2_; (try clear hb); (try clear hb2); (try clear hk); (try clear hi); (try clear ho0); obtain ⟨Ao21, co21, eo21⟩ := Kd.R_slice HO436.out; subst eo21) | ((with_reducible refine gate_dst (N := 39) rfl ?_); (try (refine gate_guard (by rfl) ?_; dsimp only)); refine Kd.R_make (Kd.int .i64) _ 3 rfl (N := 39) rfl 26 _ _ rfl (x4_1.length : Int) rfl rfl Try.underlying26 (.int .i64 0) 8 info3 rfl (by decide) (by omega) 0 (ok := fun _ => True) (okp := fun _ => True) rfl (fun _ hk => hk) trivial (of_decide_eq_true (by first | (with_reducible assumption) | assumption)) (Nat.le_trans (Nat.mul_le_mul_right _ (of_decide_eq_true (by first | (with_reducible assumption) | assumption) : (x4_1.length : Int).toNat ≤ 35184372088832)) (by omega)) (Below.refl _ _) (Nat.le_refl _) ?_; intro v438 w22 ho23 hb hg_ hnew_; clear hg_ hnew_; (first | rw [← Ny437.out] at ho23 | (simp only [Int.reduceToNat] at ho23; rw [← Ny437.out] at ho23)); have n0_ := Aside0.mk (Kd.R_elder' (by (with_reducible repeat (first | apply Kd.R_alloc | apply Kd.R_drewN | apply Kd.R_drew)); exact HO_4.out) (Kd.R_base ho23) hb); have n1_ := Aside0.mk (Kd.R_elder' (by (with_reducible repeat (first | apply Kd.R_alloc | apply Kd.R_drewN | apply Kd.R_drew)); exact HO436.out) (Kd.R_base ho23) hb); have n2_ := Aside0.mk (Kd.R_lower (Kd.R_new' (Kd.R_new' ho23 (Kd.R_lt (by (with_reducible repeat (first | apply Kd.R_alloc | apply Kd.R_drewN | apply Kd.R_drew)); exact HO_4.out))) (Kd.R_lt (by (with_reducible repeat (first | apply Kd.R_alloc | apply Kd.R_drewN | apply Kd.R_drew)); exact HO436.out))) (below_size (by repeat (first | (with_reducible first | exact HB.out | apply below_alloc | apply pw_below_drewN | apply below_drew1) | exact HB.out)))); have n3_ := Aside0.mk (below_step (by repeat (first | (with_reducible first | exact HB.out | apply below_alloc | apply pw_below_drewN | apply below_drew1) | exact HB.out)) hb); clear HO_4; clear HO436; clear HB; have HO_4 := n0_; have HO436 := n1_; have HO439 := n2_; have HB := n3_; clear n0_ n1_ n2_ n3_; clear hb ho23) | ((with_reducible refine gate_dst (N := 42) rfl ?_); (try (refine gate_guard (by rfl) ?_; dsimp only)); refine Kd.R_make Kd.bool _ 4 rfl (N := 42) rfl 38 _ _ rfl (x4_1.length : Int) rfl rfl Try.underlying38 (.bool false) 1 info4 rfl (by decide) (by omega) false (ok := fun _ => True) (okp := fun _ => True) rfl (fun _ hk => hk) trivial (of_decide_eq_true (by first | (with_reducible assumption) | assumption)) (Nat.le_trans (Nat.mul_le_mul_right _ (of_decide_eq_true (by first | (with_reducible assumption) | assumption) : (x4_1.length : Int).toNat ≤ 281474976710656)) (by omega)) (Below.refl _ _) (Nat.le_refl _) ?_; intro v441 w24 ho25 hb hg_ hnew_; clear hg_ hnew_; (first | rw [← Ny440.out] at ho25 | (simp only [Int.reduceToNat] at ho25; rw [← Ny440.out] at ho25)); have n0_ := Aside0.mk (Kd.R_below (by (with_reducible repeat (first | apply Kd.R_alloc | apply Kd.R_drewN | apply Kd.R_drew)); exact HO_4.out) hb); have n1_ := Aside0.mk (Kd.R_below (by (with_reducible repeat (first | apply Kd.R_alloc | apply Kd.R_drewN | apply Kd.R_drew)); exact HO436.out) hb); have n2_ := Aside0.mk (Kd.R_below (by (with_reducible repeat (first | apply Kd.R_alloc | apply Kd.R_drewN | apply Kd.R_drew)); exact HO439.out) hb); have n3_ := Aside0.mk (Kd.R_lower ho25 (below_size (by repeat (first | (with_reducible first | exact HB.out | apply below_alloc | apply pw_below_drewN | apply below_drew1) | exact HB.out)))); have n4_ := Aside0.mk (below_step (by repeat (first | (with_reducible first | exact HB.out | apply below_alloc | apply pw_below_drewN | apply below_drew1) | exact HB.out)) hb); clear HO_4; clear HO436; clear HO439; clear HB; have HO_4 := n0_; have HO436 := n1_; have HO439 := n2_; have HO442 := n3_; have HB := n4_; clear n0_ n1_ n2_ n3_ n4_; clear hb ho25)))
                    go_loopg [45] k1 (fun kq v45 w' => ∃ (x8_2 : List Int) (x9_2 : List Bool) (x45_2 : Int), v45 = .int .i64 x45_2 ∧ Aside0 (abugidalaw07_OrderOnce.l1 kq t427 x4_1 x8_2 x9_2 t434 (t434.length : Int) x45_2 = some r) ∧ Aside0 (kq ≤ k1) ∧ Aside0 (Kd.R (Kd.int .i64) 3 w' w.heap.size (fun k_ => some k_ ≠ (v438 : Value).ownBlock ∧ some k_ ≠ ((.slice Ao21 t434.length co21) : Value).ownBlock) (.slice Ao19 x4_1.length co19) x4_1) ∧ Aside0 (Kd.R (Kd.int .i64) 3 w' w.heap.size (fun k_ => some k_ ≠ ((.slice Ao19 x4_1.length co19) : Value).ownBlock ∧ some k_ ≠ ((.slice Ao21 t434.length co21) : Value).ownBlock) v438 x8_2) ∧ Aside0 (Kd.R Kd.bool 4 w' w.heap.size (fun _ => True) v441 x9_2) ∧ Aside0 (Kd.R (Kd.int .i64) 3 w' w.heap.size (fun k_ => some k_ ≠ ((.slice Ao19 x4_1.length co19) : Value).ownBlock ∧ some k_ ≠ (v438 : Value).ownBlock) (.slice Ao21 t434.length co21) t434) ∧ Aside0 (Below w.heap.size w w'))
                    case atStart => exact ⟨(y437), (y440), (0), (by first | rfl | (simp; done) | (simp [*]; done)), H', ⟨Nat.le_refl _⟩, ⟨by (with_reducible repeat (first | apply Kd.R_alloc | apply Kd.R_drewN | apply Kd.R_drew)); exact Kd.R_mono HO_4.out (fun _ hk => ⟨hk.2, hk.1.2⟩)⟩, ⟨by (with_reducible repeat (first | apply Kd.R_alloc | apply Kd.R_drewN | apply Kd.R_drew)); exact Kd.R_mono HO439.out (fun _ hk => ⟨hk.1.2, hk.2⟩)⟩, ⟨by (with_reducible repeat (first | apply Kd.R_alloc | apply Kd.R_drewN | apply Kd.R_drew)); exact HO442.out⟩, ⟨by (with_reducible repeat (first | apply Kd.R_alloc | apply Kd.R_drewN | apply Kd.R_drew)); exact Kd.R_mono HO436.out (fun _ hk => ⟨hk.1.2, hk.2⟩)⟩, ⟨by repeat (first | (with_reducible first | exact HB.out | apply below_alloc | apply pw_below_drewN | apply below_drew1) | exact HB.out)⟩⟩
                    case round =>
                      clear H'
                      try clear c1
                      try clear p2
                      try clear c4
                      try clear c4b0
                      try clear c4b1
                      try clear p4
                      try clear q4
                      try clear hx4
                      try clear c5
                      try clear c5b0
                      try clear c5b1
                      try clear c6
                      try clear p6
                      try clear c8
                      try clear c8b0
                      try clear c9
                      try clear c9b0
                      try clear c10
                      try clear c10b0
                      try clear c12
                      try clear c15
                      try clear c15b0
                      try clear c15b1
                      try clear c15b2
                      try clear c16
                      try clear c16b0
                      try clear c16b1
                      try clear c17
                      try clear c17b0
                      try clear c17b1
                      try clear c18
                      try clear c18b0
                      try clear c18b1
                      try clear hx429_0
                      try clear p2
                      try clear p429
                      try clear q429
                      obtain ⟨x8_2, x9_2, x45_2, rfl, HA, HK2, HO_4, HO_8, HO_9, HO_43, HB⟩ := hrel
                      cases gk with
                      | zero => exact absurd HA.out (by simp [abugidalaw07_OrderOnce.l1])
                      | succ k2 =>
                        have H := HA.out
                        clear HA
                        simp only [abugidalaw07_OrderOnce.l1] at H
                        by_cases c26 : x45_2 < (t434.length : Int)
                        · rw [if_pos c26] at H
                          have c26b0 : decide (x45_2 < (t434.length : Int)) = true := decide_eq_true c26
                          clear c26
                          by_cases c27 : 0 ≤ x45_2
                          · rw [if_pos c27] at H
                            have c27b0 : decide (0 ≤ x45_2) = true := decide_eq_true c27
                            clear c27
                            by_cases c28 : x45_2 < (t434.length : Int)
                            · rw [if_pos c28] at H
                              have c28b0 : decide (x45_2 < (t434.length : Int)) = true := decide_eq_true c28
                              clear c28
                              by_cases c29 : (rd t434 x45_2) < 0
                              · rw [if_pos c29] at H
                                have c29b0 : decide ((rd t434 x45_2) < 0) = true := decide_eq_true c29
                                clear c29
                                obtain rfl := Option.some.inj H
                                have p443 : 0 ≤ (x45_2 : Int) := of_decide_eq_true (by first | (with_reducible assumption) | assumption)
                                have q443 : x45_2 < (t434.length : Int) := of_decide_eq_true (by first | (with_reducible assumption) | assumption)
                                obtain ⟨ad443, e443, hx443_0⟩ := Kd.at_int (Kd.R_reads' HO_43.out).2.2 x45_2 p443 q443
                                cases e443
                                replace p443 := eq_true p443
                                replace q443 := eq_true q443
                                go_wp2
                                repeat (go_quiet (fail); try go_wp2)
                                go_ret
                                exact ⟨by first | rfl | (simp [errW_none, errW_some] <;> rfl) | (simp only [← hji3]; first | rfl | (simp [errW_none, errW_some] <;> rfl)) | (simp [*, errW_none, errW_some] <;> rfl), by repeat (first | (with_reducible first | exact HB.out | apply below_alloc | apply pw_below_drewN | apply below_drew1) | exact HB.out)⟩
                              · rw [if_neg c29] at H
                                have c29b0 : decide ((rd t434 x45_2) < 0) = false := decide_eq_false c29
                                clear c29
                                by_cases c30 : (rd t434 x45_2) ≥ (x4_1.length : Int)
                                · rw [if_pos c30] at H
                                  have c30b0 : decide ((x4_1.length : Int) ≤ (rd t434 x45_2)) = true := decide_eq_true c30
                                  clear c30
                                  obtain rfl := Option.some.inj H
                                  have p443 : 0 ≤ (x45_2 : Int) := of_decide_eq_true (by first | (with_reducible assumption) | assumption)
                                  have q443 : x45_2 < (t434.length : Int) := of_decide_eq_true (by first | (with_reducible assumption) | assumption)
                                  obtain ⟨ad443, e443, hx443_0⟩ := Kd.at_int (Kd.R_reads' HO_43.out).2.2 x45_2 p443 q443
                                  cases e443
                                  replace p443 := eq_true p443
                                  replace q443 := eq_true q443
                                  go_wp2
                                  repeat (go_quiet (fail); try go_wp2)
                                  go_ret
                                  exact ⟨by first | rfl | (simp [errW_none, errW_some] <;> rfl) | (simp only [← hji3]; first | rfl | (simp [errW_none, errW_some] <;> rfl)) | (simp [*, errW_none, errW_some] <;> rfl), by repeat (first | (with_reducible first | exact HB.out | apply below_alloc | apply pw_below_drewN | apply below_drew1) | exact HB.out)⟩
                                · rw [if_neg c30] at H
                                  have c30b0 : decide ((x4_1.length : Int) ≤ (rd t434 x45_2)) = false := decide_eq_false c30
                                  clear c30
                                  by_cases c31 : 0 ≤ (rd t434 x45_2)
                                  · rw [if_pos c31] at H
                                    have c31b0 : decide (0 ≤ (rd t434 x45_2)) = true := decide_eq_true c31
                                    clear c31
                                    by_cases c32 : (rd t434 x45_2) < (x9_2.length : Int)
                                    · rw [if_pos c32] at H
                                      have c32b0 : decide ((rd t434 x45_2) < (x9_2.length : Int)) = true := decide_eq_true c32
                                      clear c32
                                      obtain ⟨bq33, hbq33⟩ : ∃ b_ : Bool, b_ = (rdOf false x9_2 (rd t434 x45_2)) := ⟨_, rfl⟩
                                      replace H : (if bq33 = true then (some false) else (if (rd t434 x45_2) < (x8_2.length : Int) then (abugidalaw07_OrderOnce.l1 k2 t427 x4_1 (x8_2.set ((rd t434 x45_2) : Int).toNat x45_2) (x9_2.set ((rd t434 x45_2) : Int).toNat true) t434 (t434.length : Int) (wrap64 (x45_2 + 1))) else (none))) = some r := by rw [← hbq33] at H; exact H
                                      have Nbq33 := Aside0.mk hbq33
                                      clear hbq33
                                      by_cases c34 : bq33 = true
                                      · subst c34
                                        have H1 : (some false) = some r := by rw [if_pos rfl] at H; exact H
                                        clear H
                                        have H := H1
                                        clear H1
                                        obtain rfl := Option.some.inj H
                                        have p443 : 0 ≤ (x45_2 : Int) := of_decide_eq_true (by first | (with_reducible assumption) | assumption)
                                        have q443 : x45_2 < (t434.length : Int) := of_decide_eq_true (by first | (with_reducible assumption) | assumption)
                                        obtain ⟨ad443, e443, hx443_0⟩ := Kd.at_int (Kd.R_reads' HO_43.out).2.2 x45_2 p443 q443
                                        cases e443
                                        replace p443 := eq_true p443
                                        replace q443 := eq_true q443
                                        obtain ⟨Ao35, co35, eo35⟩ := Kd.R_slice HO_9.out
                                        subst eo35
                                        have p444 : 0 ≤ ((rd t434 x45_2) : Int) := of_decide_eq_true (by first | (with_reducible assumption) | assumption)
                                        have q444 : (rd t434 x45_2) < (x9_2.length : Int) := of_decide_eq_true (by first | (with_reducible assumption) | assumption)
                                        obtain ⟨ad444, e444, hx444_0⟩ := Kd.at_bool (Kd.R_reads' HO_9.out).2.2 (rd t434 x45_2) p444 q444
                                        (try rw [← Nbq33.out] at hx444_0)
                                        cases e444
                                        replace p444 := eq_true p444
                                        replace q444 := eq_true q444
                                        go_wp2
                                        repeat (go_quiet (fail); try go_wp2)
                                        go_ret
                                        exact ⟨by first | rfl | (simp [errW_none, errW_some] <;> rfl) | (simp only [← hji3]; first | rfl | (simp [errW_none, errW_some] <;> rfl)) | (simp [*, errW_none, errW_some] <;> rfl), by repeat (first | (with_reducible first | exact HB.out | apply below_alloc | apply pw_below_drewN | apply below_drew1) | exact HB.out)⟩
                                      · replace c34 := Bool.eq_false_iff.mpr c34
                                        subst c34
                                        have H1 : (if (rd t434 x45_2) < (x8_2.length : Int) then (abugidalaw07_OrderOnce.l1 k2 t427 x4_1 (x8_2.set ((rd t434 x45_2) : Int).toNat x45_2) (x9_2.set ((rd t434 x45_2) : Int).toNat true) t434 (t434.length : Int) (wrap64 (x45_2 + 1))) else (none)) = some r := by rw [if_neg (show ¬ (false = true) by decide)] at H; exact H
                                        clear H
                                        have H := H1
                                        clear H1
                                        obtain ⟨y445, hy445⟩ : ∃ y_ : List Bool, y_ = (x9_2.set ((rd t434 x45_2) : Int).toNat true) := ⟨_, rfl⟩
                                        replace H : (if (rd t434 x45_2) < (x8_2.length : Int) then (abugidalaw07_OrderOnce.l1 k2 t427 x4_1 (x8_2.set ((rd t434 x45_2) : Int).toNat x45_2) y445 t434 (t434.length : Int) (wrap64 (x45_2 + 1))) else (none)) = some r := by first | (rw [hy445]; with_reducible exact H) | (have H2_ := (Option.bind_some _ _).symm.trans H; rw [hy445]; with_reducible exact H2_) | (have H2_ := (Option.bind_some _ _).symm.trans H; with_reducible exact H2_) | with_reducible exact H | (rw [hy445]; exact H) | exact H
                                        have Ny445 := Aside0.mk hy445
                                        clear hy445
                                        by_cases c37 : (rd t434 x45_2) < (x8_2.length : Int)
                                        · rw [if_pos c37] at H
                                          have c37b0 : decide ((rd t434 x45_2) < (x8_2.length : Int)) = true := decide_eq_true c37
                                          clear c37
                                          obtain ⟨y446, hy446⟩ : ∃ y_ : List Int, y_ = (x8_2.set ((rd t434 x45_2) : Int).toNat x45_2) := ⟨_, rfl⟩
                                          replace H : (abugidalaw07_OrderOnce.l1 k2 t427 x4_1 y446 y445 t434 (t434.length : Int) (wrap64 (x45_2 + 1))) = some r := by first | (rw [hy446]; with_reducible exact H) | (have H2_ := (Option.bind_some _ _).symm.trans H; rw [hy446]; with_reducible exact H2_) | (have H2_ := (Option.bind_some _ _).symm.trans H; with_reducible exact H2_) | with_reducible exact H | (rw [hy446]; exact H) | exact H
                                          have Ny446 := Aside0.mk hy446
                                          clear hy446
                                          have H' := Aside0.mk H
                                          clear H
                                          have p443 : 0 ≤ (x45_2 : Int) := of_decide_eq_true (by first | (with_reducible assumption) | assumption)
                                          have q443 : x45_2 < (t434.length : Int) := of_decide_eq_true (by first | (with_reducible assumption) | assumption)
                                          obtain ⟨ad443, e443, hx443_0⟩ := Kd.at_int (Kd.R_reads' HO_43.out).2.2 x45_2 p443 q443
                                          cases e443
                                          replace p443 := eq_true p443
                                          replace q443 := eq_true q443
                                          obtain ⟨Ao39, co39, eo39⟩ := Kd.R_slice HO_9.out
                                          subst eo39
                                          have p444 : 0 ≤ ((rd t434 x45_2) : Int) := of_decide_eq_true (by first | (with_reducible assumption) | assumption)
                                          have q444 : (rd t434 x45_2) < (x9_2.length : Int) := of_decide_eq_true (by first | (with_reducible assumption) | assumption)
                                          obtain ⟨ad444, e444, hx444_0⟩ := Kd.at_bool (Kd.R_reads' HO_9.out).2.2 (rd t434 x45_2) p444 q444
                                          (try rw [← Nbq33.out] at hx444_0)
                                          cases e444
                                          replace p444 := eq_true p444
                                          replace q444 := eq_true q444
                                          have p36 : 0 ≤ ((rd t434 x45_2) : Int) := of_decide_eq_true (by first | (with_reducible assumption) | assumption)
                                          have q36 : ((rd t434 x45_2) : Int) < ((x9_2.length : Int) : Int) := of_decide_eq_true (by first | (with_reducible assumption) | assumption)
                                          obtain ⟨go36, co36, eo36, gb36, gl36, cl36, HG36⟩ := Kd.R_form HO_9.out (by omega)
                                          (first | cases eo36 | (injection eo36 with ea_ en_ ec_; (first | subst ea_ | (injection ea_ with ea_; subst ea_)); subst ec_; clear en_))
                                          have GB36 := Aside0.mk gb36
                                          have GG36 := Aside0.mk HG36
                                          clear gb36 gl36 HG36
                                          (first | simp only [add_plain] at hx444_0 | skip)
                                          obtain ⟨hx36_0, hf36_0⟩ := Kd.R_celln false HO_9.out ((rd t434 x45_2) : Int) p36 q36
                                          replace p36 := eq_true p36
                                          replace q36 := eq_true q36
                                          have HP40 := Kd.R_putg HO_9.out ((rd t434 x45_2) : Int) true
                                          go_wp2_with (first | ((with_reducible refine gate_store (t := 4) (p := 66) rfl ?_); (try (rw [drewN_self wr]; generalize hq_ : World.drewN wr _ = wr; have n0_ := Aside0.mk (Kd.R_at hq_ HO_4.out); have n1_ := Aside0.mk (Kd.R_at hq_ HO_8.out); have n2_ := Aside0.mk (Kd.R_at hq_ HO_9.out); have n3_ := Aside0.mk (Kd.R_at hq_ HO_43.out); have n4_ := Aside0.mk (below_at hq_ HB.out); clear hq_ HO_4 HO_8 HO_9 HO_43 HB; have HO_4 := n0_; have HO_8 := n1_; have HO_9 := n2_; have HO_43 := n3_; have HB := n4_; clear n0_ n1_ n2_ n3_ n4_; (try (have HP40 := Kd.R_putg HO_9.out ((rd t434 x45_2) : Int) true)))); refine store_event (t := 4) (p := 66) (v := ?vo_w41) (w1 := (wr.setCell ⟨go36, ((rd t434 x45_2) : Int).toNat, none⟩ (.bool true))) ?hg ?ho ?hn ?hr ?_; (case ho => rfl); (case hg => rfl); (case hn => rfl); (case hr => first | (go_simp; done) | (go_simp; rfl)); intro w41 hw; have hg : wr.grownBy w41 (some go36) := (by rw [hw]; exact HP40.2); have hp_ : Kd.R Kd.bool 4 w41 w.heap.size (fun _ => True) (.slice (some ⟨go36, 0, none⟩) x9_2.length co39) y445 := (by rw [hw, Ny445.out]; exact HP40.1); clear HP40; have n0_ := Aside0.mk (Kd.R_over' (v := (.slice (some ⟨go36, 0, none⟩) x9_2.length co39)) (by (with_reducible repeat (first | apply Kd.R_alloc | apply Kd.R_drewN | apply Kd.R_drew)); exact HO_4.out) (Kd.R_typed HO_9.out) (by decide) hg); have n1_ := Aside0.mk (Kd.R_over' (v := (.slice (some ⟨go36, 0, none⟩) x9_2.length co39)) (by (with_reducible repeat (first | apply Kd.R_alloc | apply Kd.R_drewN | apply Kd.R_drew)); exact HO_8.out) (Kd.R_typed HO_9.out) (by decide) hg); have n2_ := Aside0.mk (hp_); have n3_ := Aside0.mk (Kd.R_over' (v := (.slice (some ⟨go36, 0, none⟩) x9_2.length co39)) (by (with_reducible repeat (first | apply Kd.R_alloc | apply Kd.R_drewN | apply Kd.R_drew)); exact HO_43.out) (Kd.R_typed HO_9.out) (by decide) hg); have n4_ := Aside0.mk ((by rw [hw]; exact below_set (HB.out) GB36.out : Below w.heap.size w w41)); clear HO_4; clear HO_8; clear HO_9; clear HO_43; clear HB; have HO_4 := n0_; have HO_8 := n1_; have HO_9 := n2_; have HO_43 := n3_; have HB := n4_; clear n0_ n1_ n2_ n3_ n4_; clear hg hw hp_; have p38 : 0 ≤ ((rd t434 x45_2) : Int) := of_decide_eq_true (by first | (with_reducible assumption) | assumption); have q38 : ((rd t434 x45_2) : Int) < ((x8_2.length : Int) : Int) := of_decide_eq_true (by first | (with_reducible assumption) | assumption); obtain ⟨go38, co38, eo38, gb38, gl38, cl38, HG38⟩ := Kd.R_form HO_8.out (by omega); (first | cases eo38 | (injection eo38 with ea_ en_ ec_; (first | subst ea_ | (injection ea_ with ea_; subst ea_)); subst ec_; clear en_)); have GB38 := Aside0.mk gb38; have GG38 := Aside0.mk HG38; clear gb38 gl38 HG38; obtain ⟨hx38_0, hf38_0⟩ := Kd.R_celln 0 HO_8.out ((rd t434 x45_2) : Int) p38 q38; replace p38 := eq_true p38; replace q38 := eq_true q38; obtain ⟨hy42_, hz42_⟩ := Kd.R_celln 0 HO_8.out ((rd t434 x45_2) : Int) (of_decide_eq_true (by first | (with_reducible assumption) | assumption)) (of_decide_eq_true (by first | (with_reducible assumption) | assumption)); have HP42 := Kd.R_putg HO_8.out ((rd t434 x45_2) : Int) x45_2) | ((with_reducible refine gate_store (t := 3) (p := 70) rfl ?_); (try (rw [drewN_self w41]; generalize hq_ : World.drewN w41 _ = w41; have n0_ := Aside0.mk (Kd.R_at hq_ HO_4.out); have n1_ := Aside0.mk (Kd.R_at hq_ HO_8.out); have n2_ := Aside0.mk (Kd.R_at hq_ HO_9.out); have n3_ := Aside0.mk (Kd.R_at hq_ HO_43.out); have n4_ := Aside0.mk (below_at hq_ HB.out); clear hq_ HO_4 HO_8 HO_9 HO_43 HB; have HO_4 := n0_; have HO_8 := n1_; have HO_9 := n2_; have HO_43 := n3_; have HB := n4_; clear n0_ n1_ n2_ n3_ n4_; (try (obtain ⟨hy42_, hz42_⟩ := Kd.R_celln 0 HO_8.out ((rd t434 x45_2) : Int) (of_decide_eq_true (by first | (with_reducible assumption) | assumption)) (of_decide_eq_true (by first | (with_reducible assumption) | assumption)))); (try (have HP42 := Kd.R_putg HO_8.out ((rd t434 x45_2) : Int) x45_2)))); refine store_event (t := 3) (p := 70) (v := ?vo_w43) (w1 := (w41.setCell ⟨go38, ((rd t434 x45_2) : Int).toNat, none⟩ (.int .i64 x45_2))) ?hg ?ho ?hn ?hr ?_; (case ho => rfl); (case hg => rfl); (case hn => rfl); (case hr => first | (go_simp; done) | (go_simp; rfl)); intro w43 hw; have hg : w41.grownBy w43 (some go38) := (by rw [hw]; exact HP42.2); have hp_ : Kd.R (Kd.int .i64) 3 w43 w.heap.size (fun k_ => some k_ ≠ (.slice Ao19 x4_1.length co19 : Value).ownBlock ∧ some k_ ≠ (.slice (some ad443) t434.length co21 : Value).ownBlock) (.slice (some ⟨go38, 0, none⟩) x8_2.length co38) y446 := (by rw [hw, Ny446.out]; exact HP42.1); clear HP42; have n0_ := Aside0.mk (Kd.R_after (v := (.slice (some ⟨go38, 0, none⟩) x8_2.length co38)) (v1 := (.slice (some ⟨go38, 0, none⟩) x8_2.length co38)) (ok := (fun k_ => some k_ ≠ (.slice (some ad443) t434.length co21 : Value).ownBlock)) (by (with_reducible repeat (first | apply Kd.R_alloc | apply Kd.R_drewN | apply Kd.R_drew)); exact Kd.R_mono HO_4.out (fun _ hk => ⟨hk.2, hk.1⟩)) hg (.inl rfl)); have n1_ := Aside0.mk (hp_); have n2_ := Aside0.mk (Kd.R_over' (v := (.slice (some ⟨go38, 0, none⟩) x8_2.length co38)) (by (with_reducible repeat (first | apply Kd.R_alloc | apply Kd.R_drewN | apply Kd.R_drew)); exact HO_9.out) (Kd.R_typed HO_8.out) (by decide) hg); have n3_ := Aside0.mk (Kd.R_after (v := (.slice (some ⟨go38, 0, none⟩) x8_2.length co38)) (v1 := (.slice (some ⟨go38, 0, none⟩) x8_2.length co38)) (ok := (fun k_ => some k_ ≠ (.slice Ao19 x4_1.length co19 : Value).ownBlock)) (by (with_reducible repeat (first | apply Kd.R_alloc | apply Kd.R_drewN | apply Kd.R_drew)); exact HO_43.out) hg (.inl rfl)); have n4_ := Aside0.mk ((by rw [hw]; exact below_set (HB.out) GB38.out : Below w.heap.size w w43)); clear HO_4; clear HO_8; clear HO_9; clear HO_43; clear HB; have HO_4 := n0_; have HO_8 := n1_; have HO_9 := n2_; have HO_43 := n3_; have HB := n4_; clear n0_ n1_ n2_ n3_ n4_; clear hg hw hp_))
                                          repeat (go_quiet (first | ((with_reducible refine gate_store (t := 4) (p := 66) rfl ?_); (try (rw [drewN_self wr]; generalize hq_ : World.drewN wr _ = wr; have n0_ := Aside0.mk (Kd.R_at hq_ HO_4.out); have n1_ := Aside0.mk (Kd.R_at hq_ HO_8.out); have n2_ := Aside0.mk (Kd.R_at hq_ HO_9.out); have n3_ := Aside0.mk (Kd.R_at hq_ HO_43.out); have n4_ := Aside0.mk (below_at hq_ HB.out); clear hq_ HO_4 HO_8 HO_9 HO_43 HB; have HO_4 := n0_; have HO_8 := n1_; have HO_9 := n2_; have HO_43 := n3_; have HB := n4_; clear n0_ n1_ n2_ n3_ n4_; (try (have HP40 := Kd.R_putg HO_9.out ((rd t434 x45_2) : Int) true)))); refine store_event (t := 4) (p := 66) (v := ?vo_w41) (w1 := (wr.setCell ⟨go36, ((rd t434 x45_2) : Int).toNat, none⟩ (.bool true))) ?hg ?ho ?hn ?hr ?_; (case ho => rfl); (case hg => rfl); (case hn => rfl); (case hr => first | (go_simp; done) | (go_simp; rfl)); intro w41 hw; have hg : wr.grownBy w41 (some go36) := (by rw [hw]; exact HP40.2); have hp_ : Kd.R Kd.bool 4 w41 w.heap.size (fun _ => True) (.slice (some ⟨go36, 0, none⟩) x9_2.length co39) y445 := (by rw [hw, Ny445.out]; exact HP40.1); clear HP40; have n0_ := Aside0.mk (Kd.R_over' (v := (.slice (some ⟨go36, 0, none⟩) x9_2.length co39)) (by (with_reducible repeat (first | apply Kd.R_alloc | apply Kd.R_drewN | apply Kd.R_drew)); exact HO_4.out) (Kd.R_typed HO_9.out) (by decide) hg); have n1_ := Aside0.mk (Kd.R_over' (v := (.slice (some ⟨go36, 0, none⟩) x9_2.length co39)) (by (with_reducible repeat (first | apply Kd.R_alloc | apply Kd.R_drewN | apply Kd.R_drew)); exact HO_8.out) (Kd.R_typed HO_9.out) (by decide) hg); have n2_ := Aside0.mk (hp_); have n3_ := Aside0.mk (Kd.R_over' (v := (.slice (some ⟨go36, 0, none⟩) x9_2.length co39)) (by (with_reducible repeat (first | apply Kd.R_alloc | apply Kd.R_drewN | apply Kd.R_drew)); exact HO_43.out) (Kd.R_typed HO_9.out) (by decide) hg); have n4_ := Aside0.mk ((by rw [hw]; exact below_set (HB.out) GB36.out : Below w.heap.size w w41)); clear HO_4; clear HO_8; clear HO_9; clear HO_43; clear HB; have HO_4 := n0_; have HO_8 := n1_; have HO_9 := n2_; have HO_43 := n3_; have HB := n4_; clear n0_ n1_ n2_ n3_ n4_; clear hg hw hp_; have p38 : 0 ≤ ((rd t434 x45_2) : Int) := of_decide_eq_true (by first | (with_reducible assumption) | assumption); have q38 : ((rd t434 x45_2) : Int) < ((x8_2.length : Int) : Int) := of_decide_eq_true (by first | (with_reducible assumption) | assumption); obtain ⟨go38, co38, eo38, gb38, gl38, cl38, HG38⟩ := Kd.R_form HO_8.out (by omega); (first | cases eo38 | (injection eo38 with ea_ en_ ec_; (first | subst ea_ | (injection ea_ with ea_; subst ea_)); subst ec_; clear en_)); have GB38 := Aside0.mk gb38; have GG38 := Aside0.mk HG38; clear gb38 gl38 HG38; obtain ⟨hx38_0, hf38_0⟩ := Kd.R_celln 0 HO_8.out ((rd t434 x45_2) : Int) p38 q38; replace p38 := eq_true p38; replace q38 := eq_true q38; obtain ⟨hy42_, hz42_⟩ := Kd.R_celln 0 HO_8.out ((rd t434 x45_2) : Int) (of_decide_eq_true (by first | (with_reducible assumption) | assumption)) (of_decide_eq_true (by first | (with_reducible assumption) | assumption)); have HP42 := Kd.R_putg HO_8.out ((rd t434 x45_2) : Int) x45_2) | ((with_reducible refine gate_store (t := 3) (p := 70) rfl ?_); (try (rw [drewN_self w41]; generalize hq_ : World.drewN w41 _ = w41; have n0_ := Aside0.mk (Kd.R_at hq_ HO_4.out); have n1_ := Aside0.mk (Kd.R_at hq_ HO_8.out); have n2_ := Aside0.mk (Kd.R_at hq_ HO_9.out); have n3_ := Aside0.mk (Kd.R_at hq_ HO_43.out); have n4_ := Aside0.mk (below_at hq_ HB.out); clear hq_ HO_4 HO_8 HO_9 HO_43 HB; have HO_4 := n0_; have HO_8 := n1_; have HO_9 := n2_; have HO_43 := n3_; have HB := n4_; clear n0_ n1_ n2_ n3_ n4_; (try (obtain ⟨hy42_, hz42_⟩ := Kd.R_celln 0 HO_8.out ((rd t434 x45_2) : Int) (of_decide_eq_true (by first | (with_reducible assumption) | assumption)) (of_decide_eq_true (by first | (with_reducible assumption) | assumption)))); (try (have HP42 := Kd.R_putg HO_8.out ((rd t434 x45_2) : Int) x45_2)))); refine store_event (t := 3) (p := 70) (v := ?vo_w43) (w1 := (w41.setCell ⟨go38, ((rd t434 x45_2) : Int).toNat, none⟩ (.int .i64 x45_2))) ?hg ?ho ?hn ?hr ?_; (case ho => rfl); (case hg => rfl); (case hn => rfl); (case hr => first | (go_simp; done) | (go_simp; rfl)); intro w43 hw; have hg : w41.grownBy w43 (some go38) := (by rw [hw]; exact HP42.2); have hp_ : Kd.R (Kd.int .i64) 3 w43 w.heap.size (fun k_ => some k_ ≠ (.slice Ao19 x4_1.length co19 : Value).ownBlock ∧ some k_ ≠ (.slice (some ad443) t434.length co21 : Value).ownBlock) (.slice (some ⟨go38, 0, none⟩) x8_2.length co38) y446 := (by rw [hw, Ny446.out]; exact HP42.1); clear HP42; have n0_ := Aside0.mk (Kd.R_after (v := (.slice (some ⟨go38, 0, none⟩) x8_2.length co38)) (v1 := (.slice (some ⟨go38, 0, none⟩) x8_2.length co38)) (ok := (fun k_ => some k_ ≠ (.slice (some ad443) t434.length co21 : Value).ownBlock)) (by (with_reducible repeat (first | apply Kd.R_alloc | apply Kd.R_drewN | apply Kd.R_drew)); exact Kd.R_mono HO_4.out (fun _ hk => ⟨hk.2, hk.1⟩)) hg (.inl rfl)); have n1_ := Aside0.mk (hp_); have n2_ := Aside0.mk (Kd.R_over' (v := (.slice (some ⟨go38, 0, none⟩) x8_2.length co38)) (by (with_reducible repeat (first | apply Kd.R_alloc | apply Kd.R_drewN | apply Kd.R_drew)); exact HO_9.out) (Kd.R_typed HO_8.out) (by decide) hg); have n3_ := Aside0.mk (Kd.R_after (v := (.slice (some ⟨go38, 0, none⟩) x8_2.length co38)) (v1 := (.slice (some ⟨go38, 0, none⟩) x8_2.length co38)) (ok := (fun k_ => some k_ ≠ (.slice Ao19 x4_1.length co19 : Value).ownBlock)) (by (with_reducible repeat (first | apply Kd.R_alloc | apply Kd.R_drewN | apply Kd.R_drew)); exact HO_43.out) hg (.inl rfl)); have n4_ := Aside0.mk ((by rw [hw]; exact below_set (HB.out) GB38.out : Below w.heap.size w w43)); clear HO_4; clear HO_8; clear HO_9; clear HO_43; clear HB; have HO_4 := n0_; have HO_8 := n1_; have HO_9 := n2_; have HO_43 := n3_; have HB := n4_; clear n0_ n1_ n2_ n3_ n4_; clear hg hw hp_)); try go_wp2_with (first | ((with_reducible refine gate_store (t := 4) (p := 66) rfl ?_); (try (rw [drewN_self wr]; generalize hq_ : World.drewN wr _ = wr; have n0_ := Aside0.mk (Kd.R_at hq_ HO_4.out); have n1_ := Aside0.mk (Kd.R_at hq_ HO_8.out); have n2_ := Aside0.mk (Kd.R_at hq_ HO_9.out); have n3_ := Aside0.mk (Kd.R_at hq_ HO_43.out); have n4_ := Aside0.mk (below_at hq_ HB.out); clear hq_ HO_4 HO_8 HO_9 HO_43 HB; have HO_4 := n0_; have HO_8 := n1_; have HO_9 := n2_; have HO_43 := n3_; have HB := n4_; clear n0_ n1_ n2_ n3_ n4_; (try (have HP40 := Kd.R_putg HO_9.out ((rd t434 x45_2) : Int) true)))); refine store_event (t := 4) (p := 66) (v := ?vo_w41) (w1 := (wr.setCell ⟨go36, ((rd t434 x45_2) : Int).toNat, none⟩ (.bool true))) ?hg ?ho ?hn ?hr ?_; (case ho => rfl); (case hg => rfl); (case hn => rfl); (case hr => first | (go_simp; done) | (go_simp; rfl)); intro w41 hw; have hg : wr.grownBy w41 (some go36) := (by rw [hw]; exact HP40.2); have hp_ : Kd.R Kd.bool 4 w41 w.heap.size (fun _ => True) (.slice (some ⟨go36, 0, none⟩) x9_2.length co39) y445 := (by rw [hw, Ny445.out]; exact HP40.1); clear HP40; have n0_ := Aside0.mk (Kd.R_over' (v := (.slice (some ⟨go36, 0, none⟩) x9_2.length co39)) (by (with_reducible repeat (first | apply Kd.R_alloc | apply Kd.R_drewN | apply Kd.R_drew)); exact HO_4.out) (Kd.R_typed HO_9.out) (by decide) hg); have n1_ := Aside0.mk (Kd.R_over' (v := (.slice (some ⟨go36, 0, none⟩) x9_2.length co39)) (by (with_reducible repeat (first | apply Kd.R_alloc | apply Kd.R_drewN | apply Kd.R_drew)); exact HO_8.out) (Kd.R_typed HO_9.out) (by decide) hg); have n2_ := Aside0.mk (hp_); have n3_ := Aside0.mk (Kd.R_over' (v := (.slice (some ⟨go36, 0, none⟩) x9_2.length co39)) (by (with_reducible repeat (first | apply Kd.R_alloc | apply Kd.R_drewN | apply Kd.R_drew)); exact HO_43.out) (Kd.R_typed HO_9.out) (by decide) hg); have n4_ := Aside0.mk ((by rw [hw]; exact below_set (HB.out) GB36.out : Below w.heap.size w w41)); clear HO_4; clear HO_8; clear HO_9; clear HO_43; clear HB; have HO_4 := n0_; have HO_8 := n1_; have HO_9 := n2_; have HO_43 := n3_; have HB := n4_; clear n0_ n1_ n2_ n3_ n4_; clear hg hw hp_; have p38 : 0 ≤ ((rd t434 x45_2) : Int) := of_decide_eq_true (by first | (with_reducible assumption) | assumption); have q38 : ((rd t434 x45_2) : Int) < ((x8_2.length : Int) : Int) := of_decide_eq_true (by first | (with_reducible assumption) | assumption); obtain ⟨go38, co38, eo38, gb38, gl38, cl38, HG38⟩ := Kd.R_form HO_8.out (by omega); (first | cases eo38 | (injection eo38 with ea_ en_ ec_; (first | subst ea_ | (injection ea_ with ea_; subst ea_)); subst ec_; clear en_)); have GB38 := Aside0.mk gb38; have GG38 := Aside0.mk HG38; clear gb38 gl38 HG38; obtain ⟨hx38_0, hf38_0⟩ := Kd.R_celln 0 HO_8.out ((rd t434 x45_2) : Int) p38 q38; replace p38 := eq_true p38; replace q38 := eq_true q38; obtain ⟨hy42_, hz42_⟩ := Kd.R_celln 0 HO_8.out ((rd t434 x45_2) : Int) (of_decide_eq_true (by first | (with_reducible assumption) | assumption)) (of_decide_eq_true (by first | (with_reducible assumption) | assumption)); have HP42 := Kd.R_putg HO_8.out ((rd t434 x45_2) : Int) x45_2) | ((with_reducible refine gate_store (t := 3) (p := 70) rfl ?_); (try (rw [drewN_self w41]; generalize hq_ : World.drewN w41 _ = w41; have n0_ := Aside0.mk (Kd.R_at hq_ HO_4.out); have n1_ := Aside0.mk (Kd.R_at hq_ HO_8.out); have n2_ := Aside0.mk (Kd.R_at hq_ HO_9.out); have n3_ := Aside0.mk (Kd.R_at hq_ HO_43.out); have n4_ := Aside0.mk (below_at hq_ HB.out); clear hq_ HO_4 HO_8 HO_9 HO_43 HB; have HO_4 := n0_; have HO_8 := n1_; have HO_9 := n2_; have HO_43 := n3_; have HB := n4_; clear n0_ n1_ n2_ n3_ n4_; (try (obtain ⟨hy42_, hz42_⟩ := Kd.R_celln 0 HO_8.out ((rd t434 x45_2) : Int) (of_decide_eq_true (by first | (with_reducible assumption) | assumption)) (of_decide_eq_true (by first | (with_reducible assumption) | assumption)))); (try (have HP42 := Kd.R_putg HO_8.out ((rd t434 x45_2) : Int) x45_2)))); refine store_event (t := 3) (p := 70) (v := ?vo_w43) (w1 := (w41.setCell ⟨go38, ((rd t434 x45_2) : Int).toNat, none⟩ (.int .i64 x45_2))) ?hg ?ho ?hn ?hr ?_; (case ho => rfl); (case hg => rfl); (case hn => rfl); (case hr => first | (go_simp; done) | (go_simp; rfl)); intro w43 hw; have hg : w41.grownBy w43 (some go38) := (by rw [hw]; exact HP42.2); have hp_ : Kd.R (Kd.int .i64) 3 w43 w.heap.size (fun k_ => some k_ ≠ (.slice Ao19 x4_1.length co19 : Value).ownBlock ∧ some k_ ≠ (.slice (some ad443) t434.length co21 : Value).ownBlock) (.slice (some ⟨go38, 0, none⟩) x8_2.length co38) y446 := (by rw [hw, Ny446.out]; exact HP42.1); clear HP42; have n0_ := Aside0.mk (Kd.R_after (v := (.slice (some ⟨go38, 0, none⟩) x8_2.length co38)) (v1 := (.slice (some ⟨go38, 0, none⟩) x8_2.length co38)) (ok := (fun k_ => some k_ ≠ (.slice (some ad443) t434.length co21 : Value).ownBlock)) (by (with_reducible repeat (first | apply Kd.R_alloc | apply Kd.R_drewN | apply Kd.R_drew)); exact Kd.R_mono HO_4.out (fun _ hk => ⟨hk.2, hk.1⟩)) hg (.inl rfl)); have n1_ := Aside0.mk (hp_); have n2_ := Aside0.mk (Kd.R_over' (v := (.slice (some ⟨go38, 0, none⟩) x8_2.length co38)) (by (with_reducible repeat (first | apply Kd.R_alloc | apply Kd.R_drewN | apply Kd.R_drew)); exact HO_9.out) (Kd.R_typed HO_8.out) (by decide) hg); have n3_ := Aside0.mk (Kd.R_after (v := (.slice (some ⟨go38, 0, none⟩) x8_2.length co38)) (v1 := (.slice (some ⟨go38, 0, none⟩) x8_2.length co38)) (ok := (fun k_ => some k_ ≠ (.slice Ao19 x4_1.length co19 : Value).ownBlock)) (by (with_reducible repeat (first | apply Kd.R_alloc | apply Kd.R_drewN | apply Kd.R_drew)); exact HO_43.out) hg (.inl rfl)); have n4_ := Aside0.mk ((by rw [hw]; exact below_set (HB.out) GB38.out : Below w.heap.size w w43)); clear HO_4; clear HO_8; clear HO_9; clear HO_43; clear HB; have HO_4 := n0_; have HO_8 := n1_; have HO_9 := n2_; have HO_43 := n3_; have HB := n4_; clear n0_ n1_ n2_ n3_ n4_; clear hg hw hp_)))
                                          go_roundg k2
                                          case measure => have := HK1.out; have := HK2.out; omega
                                          case rel => exact ⟨(y446), (y445), (wrap64 (x45_2 + 1)), (by first | rfl | (simp; done) | (simp [*]; done)), H', ⟨by have := HK1.out; have := HK2.out; omega⟩, ⟨by (with_reducible repeat (first | apply Kd.R_alloc | apply Kd.R_drewN | apply Kd.R_drew)); exact Kd.R_mono HO_4.out (fun _ hk => ⟨hk.2, hk.1⟩)⟩, ⟨by (with_reducible repeat (first | apply Kd.R_alloc | apply Kd.R_drewN | apply Kd.R_drew)); exact HO_8.out⟩, ⟨by (with_reducible repeat (first | apply Kd.R_alloc | apply Kd.R_drewN | apply Kd.R_drew)); exact HO_9.out⟩, ⟨by (with_reducible repeat (first | apply Kd.R_alloc | apply Kd.R_drewN | apply Kd.R_drew)); exact HO_43.out⟩, ⟨by repeat (first | (with_reducible first | exact HB.out | apply below_alloc | apply pw_below_drewN | apply below_drew1) | exact HB.out)⟩⟩
                                        · rw [if_neg c37] at H
                                          exact absurd H (by simp)
                                    · rw [if_neg c32] at H
                                      exact absurd H (by simp)
                                  · rw [if_neg c31] at H
                                    exact absurd H (by simp)
                            · rw [if_neg c28] at H
                              exact absurd H (by simp)
                          · rw [if_neg c27] at H
                            exact absurd H (by simp)
                        · rw [if_neg c26] at H
                          have c26b0 : decide (x45_2 < (t434.length : Int)) = false := decide_eq_false c26
                          clear c26
                          have H' := Aside0.mk H
                          clear H
                          go_wp2
                          repeat (go_quiet (fail); try go_wp2)
                          go_loopg [12] k2 (fun kq v12 w' => ∃ (x12_3 : Int), v12 = .int .i64 x12_3 ∧ Aside0 (abugidalaw07_OrderOnce.l2 kq t427 x4_1 x8_2 x12_3 = some r) ∧ Aside0 (kq ≤ k2) ∧ Aside0 (Kd.R (Kd.int .i64) 3 w' w.heap.size (fun k_ => some k_ ≠ (v438 : Value).ownBlock) (.slice Ao19 x4_1.length co19) x4_1) ∧ Aside0 (Kd.R (Kd.int .i64) 3 w' w.heap.size (fun k_ => some k_ ≠ ((.slice Ao19 x4_1.length co19) : Value).ownBlock) v438 x8_2) ∧ Aside0 (Below w.heap.size w w'))
                          case atStart => exact ⟨(1), (by first | rfl | (simp; done) | (simp [*]; done)), H', ⟨Nat.le_refl _⟩, ⟨by (with_reducible repeat (first | apply Kd.R_alloc | apply Kd.R_drewN | apply Kd.R_drew)); exact Kd.R_mono HO_4.out (fun _ hk => hk.1)⟩, ⟨by (with_reducible repeat (first | apply Kd.R_alloc | apply Kd.R_drewN | apply Kd.R_drew)); exact Kd.R_mono HO_8.out (fun _ hk => hk.1)⟩, ⟨by repeat (first | (with_reducible first | exact HB.out | apply below_alloc | apply pw_below_drewN | apply below_drew1) | exact HB.out)⟩⟩
                          case round =>
                            clear H'
                            try clear c1
                            try clear c2
                            try clear p2
                            try clear c3
                            try clear p3
                            try clear q3
                            try clear hx3
                            try clear hf3
                            try clear c4
                            try clear c4b0
                            try clear c4b1
                            try clear p4
                            try clear q4
                            try clear hx4
                            try clear c5
                            try clear c5b0
                            try clear c5b1
                            try clear c6
                            try clear p6
                            try clear c8
                            try clear c8b0
                            try clear c9
                            try clear c9b0
                            try clear c10
                            try clear c10b0
                            try clear c12
                            try clear c15
                            try clear c15b0
                            try clear c15b1
                            try clear c15b2
                            try clear c16
                            try clear c16b0
                            try clear c16b1
                            try clear c17
                            try clear c17b0
                            try clear c17b1
                            try clear c18
                            try clear c18b0
                            try clear c18b1
                            try clear c26
                            try clear c26b0
                            try clear c27
                            try clear c27b0
                            try clear c28
                            try clear c28b0
                            try clear c29
                            try clear c29b0
                            try clear c30
                            try clear c30b0
                            try clear c31
                            try clear c31b0
                            try clear c32
                            try clear c32b0
                            try clear q33
                            try clear c34
                            try clear p36
                            try clear q36
                            try clear hx36
                            try clear hf36
                            try clear c37
                            try clear c37b0
                            try clear p38
                            try clear q38
                            try clear hx38
                            try clear hf38
                            try clear p42
                            try clear q42
                            try clear hx42
                            try clear hx36_0
                            try clear hx38_0
                            try clear hx429_0
                            try clear hx443_0
                            try clear hx444_0
                            try clear p2
                            try clear p36
                            try clear p38
                            try clear p4
                            try clear p429
                            try clear p443
                            try clear p444
                            try clear p6
                            try clear q36
                            try clear q38
                            try clear q4
                            try clear q429
                            try clear q443
                            try clear q444
                            obtain ⟨x12_3, rfl, HA, HK3, HO_4, HO_8, HB⟩ := hrel
                            cases gk with
                            | zero => exact absurd HA.out (by simp [abugidalaw07_OrderOnce.l2])
                            | succ k3 =>
                              have H := HA.out
                              clear HA
                              simp only [abugidalaw07_OrderOnce.l2] at H
                              by_cases c44 : x12_3 < (x4_1.length : Int)
                              · rw [if_pos c44] at H
                                have c44b0 : decide (x12_3 < (x4_1.length : Int)) = true := decide_eq_true c44
                                clear c44
                                obtain ⟨ji45, hji45⟩ : ∃ j_ : Int, (wrap64 (x12_3 - 1)) = j_ := ⟨_, rfl⟩
                                replace H : (if 0 ≤ (ji45) then (if (ji45) < (x4_1.length : Int) then (if 0 ≤ x12_3 then (if (rd x4_1 (ji45)) = (rd x4_1 x12_3) then (if x12_3 < (x8_2.length : Int) then (if (ji45) < (x8_2.length : Int) then (if (rd x8_2 x12_3) = (wrap64 ((wrap64 ((rd x8_2 (ji45)) + 1)) - (wrap64 (2 * (Int.tmod (rd x4_1 x12_3) 2))))) then (abugidalaw07_OrderOnce.l2 k3 t427 x4_1 x8_2 (wrap64 (x12_3 + 1))) else (some false)) else (none)) else (none)) else (abugidalaw07_OrderOnce.l2 k3 t427 x4_1 x8_2 (wrap64 (x12_3 + 1)))) else (none)) else (none)) else (none)) = some r := by first | (rw [hji45] at H; exact H) | (simp only [hji45] at H ⊢; exact H)
                                have hji45w : (IntKind.i64.wrap (x12_3 - 1)) = ji45 := (i64_w _).trans hji45
                                by_cases c46 : 0 ≤ (ji45)
                                · rw [if_pos c46] at H
                                  have c46b0 : decide (0 ≤ (ji45)) = true := decide_eq_true c46
                                  clear c46
                                  by_cases c47 : (ji45) < (x4_1.length : Int)
                                  · rw [if_pos c47] at H
                                    have c47b0 : decide ((ji45) < (x4_1.length : Int)) = true := decide_eq_true c47
                                    clear c47
                                    by_cases c48 : 0 ≤ x12_3
                                    · rw [if_pos c48] at H
                                      have c48b0 : decide (0 ≤ x12_3) = true := decide_eq_true c48
                                      clear c48
                                      by_cases c49 : (rd x4_1 (ji45)) = (rd x4_1 x12_3)
                                      · rw [if_pos c49] at H
                                        have c49b0 : ((rd x4_1 (ji45)) == (rd x4_1 x12_3)) = true := beq_iff_eq.mpr c49
                                        have c49b1 : ((rd x4_1 (ji45)) != (rd x4_1 x12_3)) = false := bne_eq_false_iff_eq.mpr c49
                                        clear c49
                                        by_cases c50 : x12_3 < (x8_2.length : Int)
                                        · rw [if_pos c50] at H
                                          have c50b0 : decide (x12_3 < (x8_2.length : Int)) = true := decide_eq_true c50
                                          clear c50
                                          by_cases c51 : (ji45) < (x8_2.length : Int)
                                          · rw [if_pos c51] at H
                                            have c51b0 : decide ((ji45) < (x8_2.length : Int)) = true := decide_eq_true c51
                                            clear c51
                                            by_cases c52 : (rd x8_2 x12_3) = (wrap64 ((wrap64 ((rd x8_2 (ji45)) + 1)) - (wrap64 (2 * (Int.tmod (rd x4_1 x12_3) 2)))))
                                            · rw [if_pos c52] at H
                                              have c52b0 : ((rd x8_2 x12_3) == (wrap64 ((wrap64 ((rd x8_2 (ji45)) + 1)) - (wrap64 (2 * (Int.tmod (rd x4_1 x12_3) 2)))))) = true := beq_iff_eq.mpr c52
                                              have c52b1 : ((rd x8_2 x12_3) != (wrap64 ((wrap64 ((rd x8_2 (ji45)) + 1)) - (wrap64 (2 * (Int.tmod (rd x4_1 x12_3) 2)))))) = false := bne_eq_false_iff_eq.mpr c52
                                              clear c52
                                              have H' := Aside0.mk H
                                              clear H
                                              have p447 : 0 ≤ ((ji45) : Int) := of_decide_eq_true (by first | (with_reducible assumption) | assumption)
                                              have q447 : (ji45) < (x4_1.length : Int) := of_decide_eq_true (by first | (with_reducible assumption) | assumption)
                                              obtain ⟨ad447, e447, hx447_0⟩ := Kd.at_int (Kd.R_reads' HO_4.out).2.2 (ji45) p447 q447
                                              cases e447
                                              replace p447 := eq_true p447
                                              replace q447 := eq_true q447
                                              have p448 : 0 ≤ (x12_3 : Int) := of_decide_eq_true (by first | (with_reducible assumption) | assumption)
                                              have q448 : x12_3 < (x4_1.length : Int) := of_decide_eq_true (by first | (with_reducible assumption) | assumption)
                                              obtain ⟨ad448, e448, hx448_0⟩ := Kd.at_int (Kd.R_reads' HO_4.out).2.2 x12_3 p448 q448
                                              obtain rfl : ad447 = ad448 := (by injection e448)
                                              replace p448 := eq_true p448
                                              replace q448 := eq_true q448
                                              obtain ⟨Ao53, co53, eo53⟩ := Kd.R_slice HO_8.out
                                              subst eo53
                                              have p449 : 0 ≤ (x12_3 : Int) := of_decide_eq_true (by first | (with_reducible assumption) | assumption)
                                              have q449 : x12_3 < (x8_2.length : Int) := of_decide_eq_true (by first | (with_reducible assumption) | assumption)
                                              obtain ⟨ad449, e449, hx449_0⟩ := Kd.at_int (Kd.R_reads' HO_8.out).2.2 x12_3 p449 q449
                                              cases e449
                                              replace p449 := eq_true p449
                                              replace q449 := eq_true q449
                                              have p450 : 0 ≤ ((ji45) : Int) := of_decide_eq_true (by first | (with_reducible assumption) | assumption)
                                              have q450 : (ji45) < (x8_2.length : Int) := of_decide_eq_true (by first | (with_reducible assumption) | assumption)
                                              obtain ⟨ad450, e450, hx450_0⟩ := Kd.at_int (Kd.R_reads' HO_8.out).2.2 (ji45) p450 q450
                                              obtain rfl : ad449 = ad450 := (by injection e450)
                                              replace p450 := eq_true p450
                                              replace q450 := eq_true q450
                                              have p451 : 0 ≤ (x12_3 : Int) := of_decide_eq_true (by first | (with_reducible assumption) | assumption)
                                              have q451 : x12_3 < (x4_1.length : Int) := of_decide_eq_true (by first | (with_reducible assumption) | assumption)
                                              obtain ⟨ad451, e451, hx451_0⟩ := Kd.at_int (Kd.R_reads' HO_4.out).2.2 x12_3 p451 q451
                                              obtain rfl : ad447 = ad451 := (by injection e451)
                                              replace p451 := eq_true p451
                                              replace q451 := eq_true q451
                                              go_wp2
                                              repeat (go_quiet (fail); try go_wp2)
                                              go_roundg k3
                                              case measure => have := HK1.out; have := HK2.out; have := HK3.out; omega
                                              case rel => exact ⟨(wrap64 (x12_3 + 1)), (by first | rfl | (simp; done) | (simp [*]; done)), H', ⟨by have := HK1.out; have := HK2.out; have := HK3.out; omega⟩, ⟨by (with_reducible repeat (first | apply Kd.R_alloc | apply Kd.R_drewN | apply Kd.R_drew)); exact HO_4.out⟩, ⟨by (with_reducible repeat (first | apply Kd.R_alloc | apply Kd.R_drewN | apply Kd.R_drew)); exact HO_8.out⟩, ⟨by repeat (first | (with_reducible first | exact HB.out | apply below_alloc | apply pw_below_drewN | apply below_drew1) | exact HB.out)⟩⟩
                                            · rw [if_neg c52] at H
                                              have c52b0 : ((rd x8_2 x12_3) == (wrap64 ((wrap64 ((rd x8_2 (ji45)) + 1)) - (wrap64 (2 * (Int.tmod (rd x4_1 x12_3) 2)))))) = false := beq_eq_false_iff_ne.mpr c52
                                              have c52b1 : ((rd x8_2 x12_3) != (wrap64 ((wrap64 ((rd x8_2 (ji45)) + 1)) - (wrap64 (2 * (Int.tmod (rd x4_1 x12_3) 2)))))) = true := bne_iff_ne.mpr c52
                                              obtain rfl := Option.some.inj H
                                              have p447 : 0 ≤ ((ji45) : Int) := of_decide_eq_true (by first | (with_reducible assumption) | assumption)
                                              have q447 : (ji45) < (x4_1.length : Int) := of_decide_eq_true (by first | (with_reducible assumption) | assumption)
                                              obtain ⟨ad447, e447, hx447_0⟩ := Kd.at_int (Kd.R_reads' HO_4.out).2.2 (ji45) p447 q447
                                              cases e447
                                              replace p447 := eq_true p447
                                              replace q447 := eq_true q447
                                              have p448 : 0 ≤ (x12_3 : Int) := of_decide_eq_true (by first | (with_reducible assumption) | assumption)
                                              have q448 : x12_3 < (x4_1.length : Int) := of_decide_eq_true (by first | (with_reducible assumption) | assumption)
                                              obtain ⟨ad448, e448, hx448_0⟩ := Kd.at_int (Kd.R_reads' HO_4.out).2.2 x12_3 p448 q448
                                              obtain rfl : ad447 = ad448 := (by injection e448)
                                              replace p448 := eq_true p448
                                              replace q448 := eq_true q448
                                              obtain ⟨Ao54, co54, eo54⟩ := Kd.R_slice HO_8.out
                                              subst eo54
                                              have p449 : 0 ≤ (x12_3 : Int) := of_decide_eq_true (by first | (with_reducible assumption) | assumption)
                                              have q449 : x12_3 < (x8_2.length : Int) := of_decide_eq_true (by first | (with_reducible assumption) | assumption)
                                              obtain ⟨ad449, e449, hx449_0⟩ := Kd.at_int (Kd.R_reads' HO_8.out).2.2 x12_3 p449 q449
                                              cases e449
                                              replace p449 := eq_true p449
                                              replace q449 := eq_true q449
                                              have p450 : 0 ≤ ((ji45) : Int) := of_decide_eq_true (by first | (with_reducible assumption) | assumption)
                                              have q450 : (ji45) < (x8_2.length : Int) := of_decide_eq_true (by first | (with_reducible assumption) | assumption)
                                              obtain ⟨ad450, e450, hx450_0⟩ := Kd.at_int (Kd.R_reads' HO_8.out).2.2 (ji45) p450 q450
                                              obtain rfl : ad449 = ad450 := (by injection e450)
                                              replace p450 := eq_true p450
                                              replace q450 := eq_true q450
                                              have p451 : 0 ≤ (x12_3 : Int) := of_decide_eq_true (by first | (with_reducible assumption) | assumption)
                                              have q451 : x12_3 < (x4_1.length : Int) := of_decide_eq_true (by first | (with_reducible assumption) | assumption)
                                              obtain ⟨ad451, e451, hx451_0⟩ := Kd.at_int (Kd.R_reads' HO_4.out).2.2 x12_3 p451 q451
                                              obtain rfl : ad447 = ad451 := (by injection e451)
                                              replace p451 := eq_true p451
                                              replace q451 := eq_true q451
                                              go_wp2
                                              repeat (go_quiet (fail); try go_wp2)
                                              go_ret
                                              exact ⟨by first | rfl | (simp [errW_none, errW_some] <;> rfl) | (simp only [← hji3, ← hji45]; first | rfl | (simp [errW_none, errW_some] <;> rfl)) | (simp [*, errW_none, errW_some] <;> rfl), by repeat (first | (with_reducible first | exact HB.out | apply below_alloc | apply pw_below_drewN | apply below_drew1) | exact HB.out)⟩
                                          · rw [if_neg c51] at H
                                            exact absurd H (by simp)
                                        · rw [if_neg c50] at H
                                          exact absurd H (by simp)
                                      · rw [if_neg c49] at H
                                        have c49b0 : ((rd x4_1 (ji45)) == (rd x4_1 x12_3)) = false := beq_eq_false_iff_ne.mpr c49
                                        have c49b1 : ((rd x4_1 (ji45)) != (rd x4_1 x12_3)) = true := bne_iff_ne.mpr c49
                                        have H' := Aside0.mk H
                                        clear H
                                        have p447 : 0 ≤ ((ji45) : Int) := of_decide_eq_true (by first | (with_reducible assumption) | assumption)
                                        have q447 : (ji45) < (x4_1.length : Int) := of_decide_eq_true (by first | (with_reducible assumption) | assumption)
                                        obtain ⟨ad447, e447, hx447_0⟩ := Kd.at_int (Kd.R_reads' HO_4.out).2.2 (ji45) p447 q447
                                        cases e447
                                        replace p447 := eq_true p447
                                        replace q447 := eq_true q447
                                        have p448 : 0 ≤ (x12_3 : Int) := of_decide_eq_true (by first | (with_reducible assumption) | assumption)
                                        have q448 : x12_3 < (x4_1.length : Int) := of_decide_eq_true (by first | (with_reducible assumption) | assumption)
                                        obtain ⟨ad448, e448, hx448_0⟩ := Kd.at_int (Kd.R_reads' HO_4.out).2.2 x12_3 p448 q448
                                        obtain rfl : ad447 = ad448 := (by injection e448)
                                        replace p448 := eq_true p448
                                        replace q448 := eq_true q448
                                        go_wp2
                                        repeat (go_quiet (fail); try go_wp2)
                                        go_roundg k3
                                        case measure => have := HK1.out; have := HK2.out; have := HK3.out; omega
                                        case rel => exact ⟨(wrap64 (x12_3 + 1)), (by first | rfl | (simp; done) | (simp [*]; done)), H', ⟨by have := HK1.out; have := HK2.out; have := HK3.out; omega⟩, ⟨by (with_reducible repeat (first | apply Kd.R_alloc | apply Kd.R_drewN | apply Kd.R_drew)); exact HO_4.out⟩, ⟨by (with_reducible repeat (first | apply Kd.R_alloc | apply Kd.R_drewN | apply Kd.R_drew)); exact HO_8.out⟩, ⟨by repeat (first | (with_reducible first | exact HB.out | apply below_alloc | apply pw_below_drewN | apply below_drew1) | exact HB.out)⟩⟩
                                    · rw [if_neg c48] at H
                                      exact absurd H (by simp)
                                  · rw [if_neg c47] at H
                                    exact absurd H (by simp)
                                · rw [if_neg c46] at H
                                  exact absurd H (by simp)
                              · rw [if_neg c44] at H
                                have c44b0 : decide (x12_3 < (x4_1.length : Int)) = false := decide_eq_false c44
                                clear c44
                                obtain rfl := Option.some.inj H
                                go_wp2
                                repeat (go_quiet (fail); try go_wp2)
                                go_ret
                                exact ⟨by first | rfl | (simp [errW_none, errW_some] <;> rfl) | (simp only [← hji3]; first | rfl | (simp [errW_none, errW_some] <;> rfl)) | (simp [*, errW_none, errW_some] <;> rfl), by repeat (first | (with_reducible first | exact HB.out | apply below_alloc | apply pw_below_drewN | apply below_drew1) | exact HB.out)⟩
                  · rw [if_neg c18] at H
                    exact absurd H (by simp)
                · rw [if_neg c17] at H
                  exact absurd H (by simp)
              · rw [if_neg c16] at H
                exact absurd H (by simp)
            · rw [if_neg c15] at H
              have c15b0 : ((t434.length : Int) == (x4_1.length : Int)) = false := beq_eq_false_iff_ne.mpr c15
              have c15b1 : ((t434.length : Int) != (x4_1.length : Int)) = true := bne_iff_ne.mpr c15
              have c15b2 : (t434.length == x4_1.length) = false := by first | simpa using c15 | (simp at c15 ⊢; omega)
              obtain rfl := Option.some.inj H
              obtain ⟨Ao55, co55, eo55⟩ := Kd.R_slice HO_4.out
              subst eo55
              go_wp2_with (first | (go_at_call 24; (with_reducible refine (order_Visual.calls _ _ x4_1 t434 _ ?side1 ?side2 A14.out).mono ?_); (case side1 => repeat (first | exact (Kd.R_reads' HO_4.out).2.2 | (with_reducible refine Kd.C_alloc ?_ _) | (with_reducible refine Kd.C_drewN ?_ _) | (with_reducible refine Kd.C_drew ?_))); (case side2 => exact (Kd.R_reads' HO_4.out).2.1); rintro e w56 ⟨v435, rfl, ho0, hb⟩; have n0_ := Aside0.mk (Kd.R_elder' (by (with_reducible repeat (first | apply Kd.R_alloc | apply Kd.R_drewN | apply Kd.R_drew)); exact HO_4.out) (Kd.R_base ho0) hb); have n1_ := Aside0.mk (Kd.R_lower (Kd.R_new' ho0 (Kd.R_lt (by (with_reducible repeat (first | apply Kd.R_alloc | apply Kd.R_drewN | apply Kd.R_drew)); exact HO_4.out))) (below_size (by repeat (first | (with_reducible first | exact HB.out | apply below_alloc | apply pw_below_drewN | apply below_drew1) | exact HB.out)))); have n2_ := Aside0.mk (below_step (by repeat (first | (with_reducible first | exact HB.out | apply below_alloc | apply pw_below_drewN | apply below_drew1) | exact HB.out)) hb); clear HO_4; clear HB; have HO_4 := n0_; have HO436 := n1_; have HB := n2_; clear n0_ n1_ n2_; (try clear hb); (try clear hb2); (try clear hk); (try clear hi); (try clear ho0); obtain ⟨Ao57, co57, eo57⟩ := Kd.R_slice HO436.out; subst eo57))
              repeat (go_quiet (first | (go_at_call 24; (with_reducible refine (order_Visual.calls _ _ x4_1 t434 _ ?side1 ?side2 A14.out).mono ?_); (case side1 => repeat (first | exact (Kd.R_reads' HO_4.out).2.2 | (with_reducible refine Kd.C_alloc ?_ _) | (with_reducible refine Kd.C_drewN ?_ _) | (with_reducible refine Kd.C_drew ?_))); (case side2 => exact (Kd.R_reads' HO_4.out).2.1); rintro e w56 ⟨v435, rfl, ho0, hb⟩; have n0_ := Aside0.mk (Kd.R_elder' (by (with_reducible repeat (first | apply Kd.R_alloc | apply Kd.R_drewN | apply Kd.R_drew)); exact HO_4.out) (Kd.R_base ho0) hb); have n1_ := Aside0.mk (Kd.R_lower (Kd.R_new' ho0 (Kd.R_lt (by (with_reducible repeat (first | apply Kd.R_alloc | apply Kd.R_drewN | apply Kd.R_drew)); exact HO_4.out))) (below_size (by repeat (first | (with_reducible first | exact HB.out | apply below_alloc | apply pw_below_drewN | apply below_drew1) | exact HB.out)))); have n2_ := Aside0.mk (below_step (by repeat (first | (with_reducible first | exact HB.out | apply below_alloc | apply pw_below_drewN | apply below_drew1) | exact HB.out)) hb); clear HO_4; clear HB; have HO_4 := n0_; have HO436 := n1_; have HB := n2_; clear n0_ n1_ n2_; (try clear hb); (try clear hb2); (try clear hk); (try clear hi); (try clear ho0); obtain ⟨Ao57, co57, eo57⟩ := Kd.R_slice HO436.out; subst eo57)); try go_wp2_with (first | (go_at_call 24; (with_reducible refine (order_Visual.calls _ _ x4_1 t434 _ ?side1 ?side2 A14.out).mono ?_); (case side1 => repeat (first | exact (Kd.R_reads' HO_4.out).2.2 | (with_reducible refine Kd.C_alloc ?_ _) | (with_reducible refine Kd.C_drewN ?_ _) | (with_reducible refine Kd.C_drew ?_))); (case side2 => exact (Kd.R_reads' HO_4.out).2.1); rintro e w56 ⟨v435, rfl, ho0, hb⟩; have n0_ := Aside0.mk (Kd.R_elder' (by (with_reducible repeat (first | apply Kd.R_alloc | apply Kd.R_drewN | apply Kd.R_drew)); exact HO_4.out) (Kd.R_base ho0) hb); have n1_ := Aside0.mk (Kd.R_lower (Kd.R_new' ho0 (Kd.R_lt (by (with_reducible repeat (first | apply Kd.R_alloc | apply Kd.R_drewN | apply Kd.R_drew)); exact HO_4.out))) (below_size (by repeat (first | (with_reducible first | exact HB.out | apply below_alloc | apply pw_below_drewN | apply below_drew1) | exact HB.out)))); have n2_ := Aside0.mk (below_step (by repeat (first | (with_reducible first | exact HB.out | apply below_alloc | apply pw_below_drewN | apply below_drew1) | exact HB.out)) hb); clear HO_4; clear HB; have HO_4 := n0_; have HO436 := n1_; have HB := n2_; clear n0_ n1_ n2_; (try clear hb); (try clear hb2); (try clear hk); (try clear hi); (try clear ho0); obtain ⟨Ao57, co57, eo57⟩ := Kd.R_slice HO436.out; subst eo57)))
              go_ret
              exact ⟨by first | rfl | (simp [errW_none, errW_some] <;> rfl) | (simp only [← hji3]; first | rfl | (simp [errW_none, errW_some] <;> rfl)) | (simp [*, errW_none, errW_some] <;> rfl), by repeat (first | (with_reducible first | exact HB.out | apply below_alloc | apply pw_below_drewN | apply below_drew1) | exact HB.out)⟩
    · rw [if_neg c5] at H
      exact absurd H (by simp)
  · rw [if_neg c4] at H
    exact absurd H (by simp)

/-- THE ONE PURE STATEMENT of abugidalaw07_OrderOnce: yours. -/
def abugidalaw07_OrderOnce.Pure : Prop := ∀ (l0 : List Int), l0.length ≤ maxLen → l0.length * 8 ≤ 140737488351232 → (∀ x ∈ l0, (Lit.int .i64 x).wf = true) → ∃ k, abugidalaw07_OrderOnce.f k l0 = some true
theorem abugidalaw07_OrderOnce.walk (P : abugidalaw07_OrderOnce.Pure) (a0 : Option Addr) (len0 cap0 : Nat) (z0 : List Int) (w : World) (w0 : (a0 = none ∧ len0 = 0 ∧ cap0 = 0 ∧ z0 = []) ∨ ∃ x, a0 = some x ∧ len0 ≤ cap0 ∧ cap0 ≤ maxLen ∧ z0.length = cap0 ∧ (∀ i, i < z0.length → w.cell? (x.add i) = some (.int .i64 (z0.getD i 0))) ∧ ∀ n ∈ z0, (Lit.int .i64 n).wf = true) (y0 : len0 * 8 ≤ 140737488351232) :
    Calls Try.prog 6 #[.slice a0 len0 cap0] w fun e w' => e = .returned (.bool true) ∧ Below w.heap.size w w' := by
  obtain ⟨l0, rfl, hr0, hm0, hw0, hc0⟩ := ReadsInt.ofRowC w0
  obtain ⟨k, h⟩ := P l0 hm0 y0 hw0
  refine (abugidalaw07_OrderOnce.calls k _ _ l0 true w (Kd.C_of_reads (d := (0 : Int)) (h1 := fun _ => rfl) hr0) hc0 h).mono ?_
  rintro e w' ⟨rfl, hd⟩
  exact ⟨rfl, hd⟩

end Go.Proofs.Ytacnckneiklgpaa.Q

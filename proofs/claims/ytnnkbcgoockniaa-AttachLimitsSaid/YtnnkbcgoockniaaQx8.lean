-- Written by wip/tools/myprint.py, a program of this session that drives the kit's print.py; not a text of print.sh.
import Derived.Test.YtnnkbcgoockniaaEqArr
import Derived.Test.YtnnkbcgoockniaaQx0
import Derived.Test.YtnnkbcgoockniaaQx2
import Derived.Test.YtnnkbcgoockniaaQx4
namespace Go.Proofs.Ytnnkbcgoockniaa.Q
open Go.RowKit Go.Proofs.YtnnkbcgoockniaaW.PrintWords Go.Proofs.YtnnkbcgoockniaaW.PrintLast Go.Proofs.YtnnkbcgoockniaaW.PrintMore
attribute [local go_sem] run_eq37 run_eq37m run_eq37n max2_int min2_int max_two min_two max_three min_three max_four min_four   -- for this text's walks alone
set_option linter.unusedVariables false
set_option linter.unusedSimpArgs false

/-! ### abugidalaw19_AttachLimits: function 9 -/
mutual
def abugidalaw19_AttachLimits.j0 : Nat → Int → Bool → Int → List (S35) → Option (Bool)
  | 0, _, _, _, _ => none
  | k + 1, x1, x5, x6, x7 => (attach_Places.f x7).bind fun t212 => (if x6 > 200 then (abugidalaw19_AttachLimits.j1 k x5 x6 t212 true) else (if x6 > 0 then (if x1 > 1048576 then (abugidalaw19_AttachLimits.j1 k x5 x6 t212 true) else (abugidalaw19_AttachLimits.j1 k x5 x6 t212 (decide (x1 < (-1048576))))) else (abugidalaw19_AttachLimits.j1 k x5 x6 t212 false)))
def abugidalaw19_AttachLimits.j1 : Nat → Bool → Int → List (S37) → Bool → Option (Bool)
  | 0, _, _, _, _ => none
  | k + 1, x5, x6, x8, x40 => if x40 = true then (if x5 = true then (some ((x8.length : Int) == 0)) else (some false)) else (abugidalaw19_AttachLimits.l0 k x5 x6 x8 x8 (x8.length : Int) 0)
def abugidalaw19_AttachLimits.l0 : Nat → Bool → Int → List (S37) → List (S37) → Int → Int → Option (Bool)
  | 0, _, _, _, _, _, _ => none
  | k + 1, x5, x6, x8, x47, x48, x49 => if x49 < x48 then (if 0 ≤ x49 then (if x49 < (x47.length : Int) then (if ((rd_T37 x47 x49).f0) = 0 then (if ((rd_T37 x47 x49).f1) = 0 then (abugidalaw19_AttachLimits.l0 k x5 x6 x8 x47 x48 (wrap64 (x49 + 1))) else (some false)) else (some false)) else (none)) else (none)) else (if x5 = true then (some ((x8.length : Int) == x6)) else (some false))
end
def abugidalaw19_AttachLimits.f (k : Nat) (a0 : Int) (a1 : Int) : Option (Bool) := (abugidalaw19_sanity.f k).bind fun t207 => (if 0 ≤ (Int.tmod (wrap64 (a0)) 210) then (if (Int.tmod (wrap64 (a0)) 210 : Int).toNat ≤ 3518437208883 then ((some (List.replicate (Int.tmod (wrap64 (a0)) 210 : Int).toNat z35 : List (S35))).bind fun y208 => (if (Int.tmod (wrap64 (a0)) 210) > 0 then (if 0 ≤ (wrap64 ((Int.tmod (wrap64 (a0)) 210) - 1)) then (if (wrap64 ((Int.tmod (wrap64 (a0)) 210) - 1)) < (y208.length : Int) then (abugidalaw19_AttachLimits.j0 k a1 t207 (Int.tmod (wrap64 (a0)) 210) (y208.set ((wrap64 ((Int.tmod (wrap64 (a0)) 210) - 1)) : Int).toNat (⟨(rd_T35 y208 (wrap64 ((Int.tmod (wrap64 (a0)) 210) - 1))).f0, (rd_T35 y208 (wrap64 ((Int.tmod (wrap64 (a0)) 210) - 1))).f1, (⟨(rd_T35 y208 (wrap64 ((Int.tmod (wrap64 (a0)) 210) - 1))).f2.f0, (rd_T35 y208 (wrap64 ((Int.tmod (wrap64 (a0)) 210) - 1))).f2.f1, (rd_T35 y208 (wrap64 ((Int.tmod (wrap64 (a0)) 210) - 1))).f2.f2⟩ : S33), a1⟩ : S35))) else (none)) else (none)) else (abugidalaw19_AttachLimits.j0 k a1 t207 (Int.tmod (wrap64 (a0)) 210) y208))) else (none)) else (none))
theorem abugidalaw19_AttachLimits.mono_l : ∀ k, (∀ y0 y1 y2 y3, LeO (abugidalaw19_AttachLimits.j0 k y0 y1 y2 y3) (abugidalaw19_AttachLimits.j0 (k + 1) y0 y1 y2 y3)) ∧ (∀ y0 y1 y2 y3, LeO (abugidalaw19_AttachLimits.j1 k y0 y1 y2 y3) (abugidalaw19_AttachLimits.j1 (k + 1) y0 y1 y2 y3)) ∧ (∀ y0 y1 y2 y3 y4 y5, LeO (abugidalaw19_AttachLimits.l0 k y0 y1 y2 y3 y4 y5) (abugidalaw19_AttachLimits.l0 (k + 1) y0 y1 y2 y3 y4 y5))
  | 0 => ⟨fun _ _ _ _ r h => by simp [abugidalaw19_AttachLimits.j0] at h, fun _ _ _ _ r h => by simp [abugidalaw19_AttachLimits.j1] at h, fun _ _ _ _ _ _ r h => by simp [abugidalaw19_AttachLimits.l0] at h⟩
  | k + 1 => by
    obtain ⟨ih0, ih1, ih2⟩ := abugidalaw19_AttachLimits.mono_l k
    refine ⟨?_, ?_, ?_⟩
    · intro y0 y1 y2 y3
      unfold abugidalaw19_AttachLimits.j0
      repeat' first
      | (with_reducible exact ih0 _ _ _ _)
      | (with_reducible exact ih1 _ _ _ _)
      | (with_reducible exact ih2 _ _ _ _ _ _)
      | (with_reducible exact abugidalaw19_sanity.mono _)
      | (with_reducible exact LeO.refl _)
      | (with_reducible exact LeO.none _)
      | (with_reducible refine LeO.ite ?_ ?_)
      | (with_reducible refine LeO.bind ?_ (fun _ => ?_))
      | exact ih0 _ _ _ _
      | exact ih1 _ _ _ _
      | exact ih2 _ _ _ _ _ _
      | exact abugidalaw19_sanity.mono _
      | exact LeO.none _
      | refine LeO.ite ?_ ?_
      | refine LeO.bind ?_ (fun _ => ?_)
    · intro y0 y1 y2 y3
      unfold abugidalaw19_AttachLimits.j1
      repeat' first
      | (with_reducible exact ih0 _ _ _ _)
      | (with_reducible exact ih1 _ _ _ _)
      | (with_reducible exact ih2 _ _ _ _ _ _)
      | (with_reducible exact abugidalaw19_sanity.mono _)
      | (with_reducible exact LeO.refl _)
      | (with_reducible exact LeO.none _)
      | (with_reducible refine LeO.ite ?_ ?_)
      | (with_reducible refine LeO.bind ?_ (fun _ => ?_))
      | exact ih0 _ _ _ _
      | exact ih1 _ _ _ _
      | exact ih2 _ _ _ _ _ _
      | exact abugidalaw19_sanity.mono _
      | exact LeO.none _
      | refine LeO.ite ?_ ?_
      | refine LeO.bind ?_ (fun _ => ?_)
    · intro y0 y1 y2 y3 y4 y5
      unfold abugidalaw19_AttachLimits.l0
      repeat' first
      | (with_reducible exact ih0 _ _ _ _)
      | (with_reducible exact ih1 _ _ _ _)
      | (with_reducible exact ih2 _ _ _ _ _ _)
      | (with_reducible exact abugidalaw19_sanity.mono _)
      | (with_reducible exact LeO.refl _)
      | (with_reducible exact LeO.none _)
      | (with_reducible refine LeO.ite ?_ ?_)
      | (with_reducible refine LeO.bind ?_ (fun _ => ?_))
      | exact ih0 _ _ _ _
      | exact ih1 _ _ _ _
      | exact ih2 _ _ _ _ _ _
      | exact abugidalaw19_sanity.mono _
      | exact LeO.none _
      | refine LeO.ite ?_ ?_
      | refine LeO.bind ?_ (fun _ => ?_)
theorem abugidalaw19_AttachLimits.mono : ∀ a0 a1 k, LeO (abugidalaw19_AttachLimits.f k a0 a1) (abugidalaw19_AttachLimits.f (k + 1) a0 a1) := by
  intro a0 a1 k
  obtain ⟨ih0, ih1, ih2⟩ := abugidalaw19_AttachLimits.mono_l k
  unfold abugidalaw19_AttachLimits.f
  repeat' first
      | (with_reducible exact ih0 _ _ _ _)
      | (with_reducible exact ih1 _ _ _ _)
      | (with_reducible exact ih2 _ _ _ _ _ _)
      | (with_reducible exact abugidalaw19_sanity.mono _)
      | (with_reducible exact LeO.refl _)
      | (with_reducible exact LeO.none _)
      | (with_reducible refine LeO.ite ?_ ?_)
      | (with_reducible refine LeO.bind ?_ (fun _ => ?_))
      | exact ih0 _ _ _ _
      | exact ih1 _ _ _ _
      | exact ih2 _ _ _ _ _ _
      | exact abugidalaw19_sanity.mono _
      | exact LeO.none _
      | refine LeO.ite ?_ ?_
      | refine LeO.bind ?_ (fun _ => ?_)
set_option maxHeartbeats 8000000 in
set_option maxRecDepth 100000 in
theorem abugidalaw19_AttachLimits.calls (k : Nat) (a0 : Int) (a1 : Int) (r : Bool) (w : World) (h : abugidalaw19_AttachLimits.f k a0 a1 = some r) :
    Calls Try.prog 9 #[.int .u8 a0, .int .i64 a1] w fun e w' => e = .returned (.bool r) ∧ Below w.heap.size w w' := by
  have hu37 := Try.underlying37
  have HB := Aside0.mk (Below.refl w.heap.size w)
  have H : ((abugidalaw19_sanity.f k).bind fun t207 => (if 0 ≤ (Int.tmod (wrap64 (a0)) 210) then (if (Int.tmod (wrap64 (a0)) 210 : Int).toNat ≤ 3518437208883 then ((some (List.replicate (Int.tmod (wrap64 (a0)) 210 : Int).toNat z35 : List (S35))).bind fun y208 => (if (Int.tmod (wrap64 (a0)) 210) > 0 then (if 0 ≤ (wrap64 ((Int.tmod (wrap64 (a0)) 210) - 1)) then (if (wrap64 ((Int.tmod (wrap64 (a0)) 210) - 1)) < (y208.length : Int) then (abugidalaw19_AttachLimits.j0 k a1 t207 (Int.tmod (wrap64 (a0)) 210) (y208.set ((wrap64 ((Int.tmod (wrap64 (a0)) 210) - 1)) : Int).toNat (⟨(rd_T35 y208 (wrap64 ((Int.tmod (wrap64 (a0)) 210) - 1))).f0, (rd_T35 y208 (wrap64 ((Int.tmod (wrap64 (a0)) 210) - 1))).f1, (⟨(rd_T35 y208 (wrap64 ((Int.tmod (wrap64 (a0)) 210) - 1))).f2.f0, (rd_T35 y208 (wrap64 ((Int.tmod (wrap64 (a0)) 210) - 1))).f2.f1, (rd_T35 y208 (wrap64 ((Int.tmod (wrap64 (a0)) 210) - 1))).f2.f2⟩ : S33), a1⟩ : S35))) else (none)) else (none)) else (abugidalaw19_AttachLimits.j0 k a1 t207 (Int.tmod (wrap64 (a0)) 210) y208))) else (none)) else (none))) = some r := h
  clear h
  replace H := Option.bind_eq_some_iff.mp H
  obtain ⟨t207, A30, H⟩ := H
  replace H : (if 0 ≤ (Int.tmod (wrap64 (a0)) 210) then (if (Int.tmod (wrap64 (a0)) 210 : Int).toNat ≤ 3518437208883 then ((some (List.replicate (Int.tmod (wrap64 (a0)) 210 : Int).toNat z35 : List (S35))).bind fun y208 => (if (Int.tmod (wrap64 (a0)) 210) > 0 then (if 0 ≤ (wrap64 ((Int.tmod (wrap64 (a0)) 210) - 1)) then (if (wrap64 ((Int.tmod (wrap64 (a0)) 210) - 1)) < (y208.length : Int) then (abugidalaw19_AttachLimits.j0 k a1 t207 (Int.tmod (wrap64 (a0)) 210) (y208.set ((wrap64 ((Int.tmod (wrap64 (a0)) 210) - 1)) : Int).toNat (⟨(rd_T35 y208 (wrap64 ((Int.tmod (wrap64 (a0)) 210) - 1))).f0, (rd_T35 y208 (wrap64 ((Int.tmod (wrap64 (a0)) 210) - 1))).f1, (⟨(rd_T35 y208 (wrap64 ((Int.tmod (wrap64 (a0)) 210) - 1))).f2.f0, (rd_T35 y208 (wrap64 ((Int.tmod (wrap64 (a0)) 210) - 1))).f2.f1, (rd_T35 y208 (wrap64 ((Int.tmod (wrap64 (a0)) 210) - 1))).f2.f2⟩ : S33), a1⟩ : S35))) else (none)) else (none)) else (abugidalaw19_AttachLimits.j0 k a1 t207 (Int.tmod (wrap64 (a0)) 210) y208))) else (none)) else (none)) = some r := H
  have A3 := Aside0.mk A30
  clear A30
  obtain ⟨ji4, hji4⟩ : ∃ j_ : Int, (Int.tmod (wrap64 (a0)) 210) = j_ := ⟨_, rfl⟩
  replace H : (if 0 ≤ (ji4) then (if (ji4 : Int).toNat ≤ 3518437208883 then ((some (List.replicate (ji4 : Int).toNat z35 : List (S35))).bind fun y208 => (if (ji4) > 0 then (if 0 ≤ (wrap64 ((ji4) - 1)) then (if (wrap64 ((ji4) - 1)) < (y208.length : Int) then (abugidalaw19_AttachLimits.j0 k a1 t207 ji4 (y208.set ((wrap64 ((ji4) - 1)) : Int).toNat (⟨(rd_T35 y208 (wrap64 ((ji4) - 1))).f0, (rd_T35 y208 (wrap64 ((ji4) - 1))).f1, (⟨(rd_T35 y208 (wrap64 ((ji4) - 1))).f2.f0, (rd_T35 y208 (wrap64 ((ji4) - 1))).f2.f1, (rd_T35 y208 (wrap64 ((ji4) - 1))).f2.f2⟩ : S33), a1⟩ : S35))) else (none)) else (none)) else (abugidalaw19_AttachLimits.j0 k a1 t207 ji4 y208))) else (none)) else (none)) = some r := by first | (rw [hji4] at H; exact H) | (simp only [hji4] at H ⊢; exact H)
  (try rw [hji4] at A3)
  by_cases c5 : 0 ≤ (ji4)
  · rw [if_pos c5] at H
    have c5b0 := eq_true c5
    have c5b1 : decide (0 ≤ (ji4)) = true := decide_eq_true c5
    clear c5
    by_cases c6 : (ji4 : Int).toNat ≤ 3518437208883
    · rw [if_pos c6] at H
      have c6b0 := eq_true c6
      have c6b1 : decide ((ji4 : Int).toNat ≤ 3518437208883) = true := decide_eq_true c6
      clear c6
      obtain ⟨y208, hy208⟩ : ∃ y_ : List (S35), y_ = (List.replicate (ji4 : Int).toNat z35) := ⟨_, rfl⟩
      replace H : (if (ji4) > 0 then (if 0 ≤ (wrap64 ((ji4) - 1)) then (if (wrap64 ((ji4) - 1)) < (y208.length : Int) then (abugidalaw19_AttachLimits.j0 k a1 t207 ji4 (y208.set ((wrap64 ((ji4) - 1)) : Int).toNat (⟨(rd_T35 y208 (wrap64 ((ji4) - 1))).f0, (rd_T35 y208 (wrap64 ((ji4) - 1))).f1, (⟨(rd_T35 y208 (wrap64 ((ji4) - 1))).f2.f0, (rd_T35 y208 (wrap64 ((ji4) - 1))).f2.f1, (rd_T35 y208 (wrap64 ((ji4) - 1))).f2.f2⟩ : S33), a1⟩ : S35))) else (none)) else (none)) else (abugidalaw19_AttachLimits.j0 k a1 t207 ji4 y208)) = some r := by first | (rw [hy208]; with_reducible exact H) | (have H2_ := (Option.bind_some _ _).symm.trans H; rw [hy208]; with_reducible exact H2_) | (have H2_ := (Option.bind_some _ _).symm.trans H; with_reducible exact H2_) | with_reducible exact H | (rw [hy208]; exact H) | exact H
      have Ny208 := Aside0.mk hy208
      clear hy208
      have HC7 := Aside0.mk H
      clear H
      go_enter Try.func9, Try.ntmps9
      go_upto_if 18 with (first | ((with_reducible refine gate_callee (f := 10) rfl ?_); refine goesL_ (some 11) rfl rfl Try.func10 (by kernel_rfl) rfl #[] rfl (by (try simp only [List.map_toArray, List.map_cons, List.map_nil]); first | done | rfl | (simp only [List.length_drop, List.length_take]; rfl)) ?_; (with_reducible refine (abugidalaw19_sanity.calls k  t207 _ A3.out).mono ?_); rintro e w8 ⟨rfl, hb⟩; refine ⟨_, rfl, ?_⟩; have n0_ := Aside0.mk (below_step (by repeat (first | (with_reducible first | exact HB.out | apply below_alloc | apply pw_below_drewN | apply below_drew1) | exact HB.out)) hb); clear HB; have HB := n0_; clear n0_; (try clear hb); (try clear hb2); (try clear hk); (try clear hi)) | ((with_reducible refine gate_dst (N := 16) rfl ?_); (try (refine gate_guard (by rfl) ?_; dsimp only)); refine Kd.R_make k35 _ 35 rfl (N := 16) rfl 24 _ _ rfl ji4 rfl rfl Try.underlying24 (.agg #[(.slice none 0 0), (.slice none 0 0), (.int .i64 0), (.int .i64 0), (.int .i64 0), (.int .i64 0)]) 80 info35 rfl (by decide) (by omega) z35 (ok := fun _ => True) (okp := fun _ => True) (k35_mkM _ _ _ z35 (Kd.R_nil _ _ _ _ _) (Kd.R_nil _ _ _ _ _)) (fun _ hk => hk) trivial (of_decide_eq_true (by first | (with_reducible assumption) | assumption)) (Nat.le_trans (Nat.mul_le_mul_right _ (of_decide_eq_true (by first | (with_reducible assumption) | assumption) : ji4.toNat ≤ 3518437208883)) (by omega)) (Below.refl _ _) (Nat.le_refl _) ?_; intro v209 w9 ho10 hb hg_ hnew_; clear hg_ hnew_; (first | rw [← Ny208.out] at ho10 | (simp only [Int.reduceToNat] at ho10; rw [← Ny208.out] at ho10)); have n0_ := Aside0.mk (Kd.R_lower ho10 (below_size (by repeat (first | (with_reducible first | exact HB.out | apply below_alloc | apply pw_below_drewN | apply below_drew1) | exact HB.out)))); have n1_ := Aside0.mk (below_step (by repeat (first | (with_reducible first | exact HB.out | apply below_alloc | apply pw_below_drewN | apply below_drew1) | exact HB.out)) hb); clear HB; have HO210 := n0_; have HB := n1_; clear n0_ n1_; clear hb ho10))
      (try simp only [Act.put, List.setIfInBounds_toArray, List.set_cons_zero, List.set_cons_succ])
      go_cut [] (fun wc => ∃ (kq : Nat) (x7_6 : List (S35)), Aside0 (abugidalaw19_AttachLimits.j0 kq a1 t207 ji4 x7_6 = some r) ∧ Aside0 (kq ≤ k) ∧ Aside0 (Kd.R k35 35 wc w.heap.size (fun _ => True) v209 x7_6) ∧ Aside0 (Below w.heap.size w wc))
      case first =>
        have H := HC7.out
        clear HC7
        by_cases c11 : (ji4) > 0
        · rw [if_pos c11] at H
          have c11b0 : decide (0 < (ji4)) = true := decide_eq_true c11
          clear c11
          (first | rw [c11b0] | (simp only [i64_w, i32_w]; rw [c11b0]) | skip)
          obtain ⟨ji12, hji12⟩ : ∃ j_ : Int, (wrap64 ((ji4) - 1)) = j_ := ⟨_, rfl⟩
          replace H : (if 0 ≤ (ji12) then (if (ji12) < (y208.length : Int) then (abugidalaw19_AttachLimits.j0 k a1 t207 ji4 (y208.set ((ji12) : Int).toNat (⟨(rd_T35 y208 (ji12)).f0, (rd_T35 y208 (ji12)).f1, (⟨(rd_T35 y208 (ji12)).f2.f0, (rd_T35 y208 (ji12)).f2.f1, (rd_T35 y208 (ji12)).f2.f2⟩ : S33), a1⟩ : S35))) else (none)) else (none)) = some r := by first | (rw [hji12] at H; exact H) | (simp only [hji12] at H ⊢; exact H)
          have hji12w : (IntKind.i64.wrap ((ji4) - 1)) = ji12 := (i64_w _).trans hji12
          by_cases c13 : 0 ≤ (ji12)
          · rw [if_pos c13] at H
            have c13b0 : decide (0 ≤ (ji12)) = true := decide_eq_true c13
            clear c13
            by_cases c14 : (ji12) < (y208.length : Int)
            · rw [if_pos c14] at H
              have c14b0 : decide ((ji12) < (y208.length : Int)) = true := decide_eq_true c14
              clear c14
              obtain ⟨y211, hy211⟩ : ∃ y_ : List (S35), y_ = (y208.set ((ji12) : Int).toNat (⟨(rd_T35 y208 (ji12)).f0, (rd_T35 y208 (ji12)).f1, (⟨(rd_T35 y208 (ji12)).f2.f0, (rd_T35 y208 (ji12)).f2.f1, (rd_T35 y208 (ji12)).f2.f2⟩ : S33), a1⟩ : S35)) := ⟨_, rfl⟩
              replace H : (abugidalaw19_AttachLimits.j0 k a1 t207 ji4 y211) = some r := by first | (rw [hy211]; with_reducible exact H) | (have H2_ := (Option.bind_some _ _).symm.trans H; rw [hy211]; with_reducible exact H2_) | (have H2_ := (Option.bind_some _ _).symm.trans H; with_reducible exact H2_) | with_reducible exact H | (rw [hy211]; exact H) | exact H
              have Ny211 := Aside0.mk hy211
              clear hy211
              have H' := Aside0.mk H
              clear H
              have p15 : 0 ≤ ((ji12) : Int) := of_decide_eq_true (by first | (with_reducible assumption) | assumption)
              have q15 : ((ji12) : Int) < ((y208.length : Int) : Int) := of_decide_eq_true (by first | (with_reducible assumption) | assumption)
              obtain ⟨go15, co15, eo15, gb15, gl15, cl15, HG15⟩ := Kd.R_form HO210.out (by omega)
              (first | cases eo15 | (injection eo15 with ea_ en_ ec_; (first | subst ea_ | (injection ea_ with ea_; subst ea_)); subst ec_; clear en_))
              have GB15 := Aside0.mk gb15
              have GG15 := Aside0.mk HG15
              clear gb15 gl15 HG15
              obtain ⟨ce15, hcl15, hM15, hcc15, hfr15⟩ := Kd.R_elem HO210.out z35 ((ji12) : Int) p15 q15
              obtain ⟨ve15_0, ve15_1, rfl, ge15_0, ge15_1⟩ := k35_openM hM15
              have hx15_0 : w9.cell? ⟨go15, ((ji12) : Int).toNat * 6, none⟩ = some (ve15_0) := hcc15 0 _ rfl
              have hx15_1 : w9.cell? ⟨go15, ((ji12) : Int).toNat * 6 + 1, none⟩ = some (ve15_1) := hcc15 1 _ rfl
              have hx15_2 : w9.cell? ⟨go15, ((ji12) : Int).toNat * 6 + 2, none⟩ = some (.int .i64 ((rd_T35 y208 (ji12)).f2.f0)) := hcc15 2 _ rfl
              have hx15_3 : w9.cell? ⟨go15, ((ji12) : Int).toNat * 6 + 3, none⟩ = some (.int .i64 ((rd_T35 y208 (ji12)).f2.f1)) := hcc15 3 _ rfl
              have hx15_4 : w9.cell? ⟨go15, ((ji12) : Int).toNat * 6 + 4, none⟩ = some (.int .i64 ((rd_T35 y208 (ji12)).f2.f2)) := hcc15 4 _ rfl
              have hx15_5 : w9.cell? ⟨go15, ((ji12) : Int).toNat * 6 + 5, none⟩ = some (.int .i64 ((rd_T35 y208 (ji12)).f3)) := hcc15 5 _ rfl
              have hf15_0 : w9.frozen? ⟨go15, ((ji12) : Int).toNat * 6, none⟩ = false := hfr15 0
              have hf15_1 : w9.frozen? ⟨go15, ((ji12) : Int).toNat * 6 + 1, none⟩ = false := hfr15 1
              have hf15_2 : w9.frozen? ⟨go15, ((ji12) : Int).toNat * 6 + 2, none⟩ = false := hfr15 2
              have hf15_3 : w9.frozen? ⟨go15, ((ji12) : Int).toNat * 6 + 3, none⟩ = false := hfr15 3
              have hf15_4 : w9.frozen? ⟨go15, ((ji12) : Int).toNat * 6 + 4, none⟩ = false := hfr15 4
              have hf15_5 : w9.frozen? ⟨go15, ((ji12) : Int).toNat * 6 + 5, none⟩ = false := hfr15 5
              clear hcl15 hcc15 hfr15 hM15
              replace p15 := eq_true p15
              replace q15 := eq_true q15
              have HX16 := Aside0.mk (show Kd.R k35 35 w9 w.heap.size (fun _ => True) (.slice (some ⟨go15, 0, none⟩) y208.length co15) y208 from (by (with_reducible repeat (first | apply Kd.R_alloc | apply Kd.R_drewN | apply Kd.R_drew)); exact HO210.out))
              obtain ⟨ce16, hcl16, hM16, hcc16, hfr16⟩ := Kd.R_elem HX16.out z35 ((ji12) : Int) (of_decide_eq_true (by first | (with_reducible assumption) | assumption)) (by have h_ : ((ji12) : Int) < ((y208.length : Int) : Int) := of_decide_eq_true (by first | (with_reducible assumption) | assumption); first | exact h_ | (have e_ := (Kd.R_reads' HO210.out).1; omega) | simpa using h_)
              obtain ⟨ve16_0, ve16_1, rfl, ge16_0, ge16_1⟩ := k35_openM hM16
              have HP16 := Kd.R_seg HX16.out ((ji12) : Int) (of_decide_eq_true (by first | (with_reducible assumption) | assumption)) (by have h_ : ((ji12) : Int) < ((y208.length : Int) : Int) := of_decide_eq_true (by first | (with_reducible assumption) | assumption); first | exact h_ | (have e_ := (Kd.R_reads' HO210.out).1; omega) | simpa using h_) (seg := [.int .i64 a1]) (j := 5) hcl16 hcc16 (show 6 ≤ 6 from by decide) (x' := (⟨(rd_T35 y208 (ji12)).f0, (rd_T35 y208 (ji12)).f1, (⟨(rd_T35 y208 (ji12)).f2.f0, (rd_T35 y208 (ji12)).f2.f1, (rd_T35 y208 (ji12)).f2.f2⟩ : S33), a1⟩ : S35)) (k35_mkM _ _ _ (⟨(rd_T35 y208 (ji12)).f0, (rd_T35 y208 (ji12)).f1, (⟨(rd_T35 y208 (ji12)).f2.f0, (rd_T35 y208 (ji12)).f2.f1, (rd_T35 y208 (ji12)).f2.f2⟩ : S33), a1⟩ : S35) ge16_0 ge16_1) (fun _ hk => hk)
              have hx16_5 := hcc16 5 _ rfl
              (try simp only [show (k35).sz = 6 from rfl, Nat.mul_one, Nat.add_zero] at hx16_5)
              have hf16_5 := hfr16 5
              (try simp only [show (k35).sz = 6 from rfl, Nat.mul_one, Nat.add_zero] at hf16_5)
              clear hcl16 hcc16 hfr16 hM16
              go_wp2_with (first | ((with_reducible refine gate_store (t := 3) (p := 24) rfl ?_); refine store_event (t := 3) (p := 24) (v := ?vo_w17) (w1 := (w9.setCell ⟨go15, ((ji12) : Int).toNat * 6 + 5, none⟩ (.int .i64 a1))) ?hg ?ho ?hn ?hr ?_; (case ho => rfl); (case hg => rfl); (case hn => rfl); (case hr => first | (go_simp; done) | (go_simp; rfl)); intro w17 hw; have hg : w9.grownBy w17 (some go15) := (by rw [hw]; exact HP16.2); have hp_ : Kd.R k35 35 w17 w.heap.size (fun _ => True) (.slice (some ⟨go15, 0, none⟩) y208.length co15) y211 := (by rw [hw, Ny211.out]; exact HP16.1); clear HP16; have n0_ := Aside0.mk (hp_); have n1_ := Aside0.mk ((by rw [hw]; exact below_set (HB.out) GB15.out : Below w.heap.size w w17)); clear HO210; clear HB; have HO210 := n0_; have HB := n1_; clear n0_ n1_; clear hg hw hp_))
              go_meet
              case rel => exact ⟨_, (y211), H', ⟨by first | omega | exact Nat.le_refl _⟩, ⟨by (with_reducible repeat (first | apply Kd.R_alloc | apply Kd.R_drewN | apply Kd.R_drew)); exact HO210.out⟩, ⟨by repeat (first | (with_reducible first | exact HB.out | apply below_alloc | apply pw_below_drewN | apply below_drew1) | exact HB.out)⟩⟩
            · rw [if_neg c14] at H
              exact absurd H (by simp)
          · rw [if_neg c13] at H
            exact absurd H (by simp)
        · rw [if_neg c11] at H
          have c11b0 : decide (0 < (ji4)) = false := decide_eq_false c11
          clear c11
          (first | rw [c11b0] | (simp only [i64_w, i32_w]; rw [c11b0]) | skip)
          have H' := Aside0.mk H
          clear H
          go_wp2
          go_meet
          case rel => exact ⟨_, (y208), H', ⟨by first | omega | exact Nat.le_refl _⟩, ⟨by (with_reducible repeat (first | apply Kd.R_alloc | apply Kd.R_drewN | apply Kd.R_drew)); exact HO210.out⟩, ⟨by repeat (first | (with_reducible first | exact HB.out | apply below_alloc | apply pw_below_drewN | apply below_drew1) | exact HB.out)⟩⟩
      case rest =>
        clear HC7
        try clear c1
        try clear p1
        try clear q1
        try clear hx1
        try clear p2
        try clear c5
        try clear c5b0
        try clear c5b1
        try clear c6
        try clear c6b0
        try clear c6b1
        try clear p6
        try clear c9
        try clear c10
        try clear c11
        try clear c11b0
        try clear c13
        try clear c13b0
        try clear c14
        try clear c14b0
        try clear c15
        try clear p15
        try clear q15
        try clear hx15
        try clear hf15
        try clear c16
        try clear hx16
        try clear hf16
        try clear hx15_0
        try clear hx15_1
        try clear hx15_2
        try clear hx15_3
        try clear hx15_4
        try clear hx15_5
        try clear hx16_5
        try clear p15
        try clear q15
        obtain ⟨kq, x7_6, HA, HJ6, HO_7, HB⟩ := hcut
        cases kq with
        | zero => exact absurd HA.out (by simp [abugidalaw19_AttachLimits.j0])
        | succ kj6 =>
          have H := HA.out
          clear HA
          simp only [abugidalaw19_AttachLimits.j0] at H
          replace H := Option.bind_eq_some_iff.mp H
          obtain ⟨t212, A180, H⟩ := H
          replace H : (if ji4 > 200 then (abugidalaw19_AttachLimits.j1 kj6 t207 ji4 t212 true) else (if ji4 > 0 then (if a1 > 1048576 then (abugidalaw19_AttachLimits.j1 kj6 t207 ji4 t212 true) else (abugidalaw19_AttachLimits.j1 kj6 t207 ji4 t212 (decide (a1 < (-1048576))))) else (abugidalaw19_AttachLimits.j1 kj6 t207 ji4 t212 false))) = some r := H
          have A18 := Aside0.mk A180
          clear A180
          have HC19 := Aside0.mk H
          clear H
          obtain ⟨Ao20, co20, eo20⟩ := Kd.R_slice HO_7.out
          subst eo20
          go_upto_region 7 with (first | ((with_reducible refine gate_callee (f := 13) rfl ?_); refine goesL_ (some 26) rfl rfl Try.func13 (by kernel_rfl) rfl #[.slice Ao20 x7_6.length co20] rfl (by (try simp only [List.map_toArray, List.map_cons, List.map_nil]); first | done | rfl | (simp only [List.length_drop, List.length_take]; rfl)) ?_; (with_reducible refine (attach_Places.calls _ _ x7_6 t212 _ ?side1 ?side2 A18.out).mono ?_); (case side1 => repeat (first | exact (Kd.R_reads' HO_7.out).2.2 | (with_reducible refine Kd.C_alloc ?_ _) | (with_reducible refine Kd.C_drewN ?_ _) | (with_reducible refine Kd.C_drew ?_))); (case side2 => exact (Kd.R_reads' HO_7.out).2.1); rintro e w21 ⟨v213, rfl, ho0, hb⟩; refine ⟨_, rfl, ?_⟩; have n0_ := Aside0.mk (Kd.R_below (by (with_reducible repeat (first | apply Kd.R_alloc | apply Kd.R_drewN | apply Kd.R_drew)); exact HO_7.out) hb); have n1_ := Aside0.mk (Kd.R_lower ho0 (below_size (by repeat (first | (with_reducible first | exact HB.out | apply below_alloc | apply pw_below_drewN | apply below_drew1) | exact HB.out)))); have n2_ := Aside0.mk (below_step (by repeat (first | (with_reducible first | exact HB.out | apply below_alloc | apply pw_below_drewN | apply below_drew1) | exact HB.out)) hb); clear HO_7; clear HB; have HO_7 := n0_; have HO214 := n1_; have HB := n2_; clear n0_ n1_ n2_; (try clear hb); (try clear hb2); (try clear hk); (try clear hi); (try clear ho0)))
          (try simp only [Act.put, List.setIfInBounds_toArray, List.set_cons_zero, List.set_cons_succ])
          go_cut [40] (fun v40 wc => ∃ (kq : Nat) (x40_18 : Bool), v40 = .bool x40_18 ∧ Aside0 (abugidalaw19_AttachLimits.j1 kq t207 ji4 t212 x40_18 = some r) ∧ Aside0 (kq ≤ kj6) ∧ Aside0 (Kd.R k37 37 wc w.heap.size (fun _ => True) v213 t212) ∧ Aside0 (Below w.heap.size w wc))
          case first =>
            have H := HC19.out
            clear HC19
            by_cases c22 : ji4 > 200
            · rw [if_pos c22] at H
              have c22b0 : decide (200 < ji4) = true := decide_eq_true c22
              clear c22
              (first | rw [c22b0] | (simp only [i64_w, i32_w]; rw [c22b0]) | skip)
              have H' := Aside0.mk H
              clear H
              go_wp2
              go_meet
              case rel => exact ⟨_, (true), (by first | rfl | (simp; done) | (simp [*]; done)), H', ⟨by have := HJ6.out; first | omega | exact Nat.le_refl _⟩, ⟨by (with_reducible repeat (first | apply Kd.R_alloc | apply Kd.R_drewN | apply Kd.R_drew)); exact HO214.out⟩, ⟨by repeat (first | (with_reducible first | exact HB.out | apply below_alloc | apply pw_below_drewN | apply below_drew1) | exact HB.out)⟩⟩
            · rw [if_neg c22] at H
              have c22b0 : decide (200 < ji4) = false := decide_eq_false c22
              clear c22
              (first | rw [c22b0] | (simp only [i64_w, i32_w]; rw [c22b0]) | skip)
              by_cases c23 : ji4 > 0
              · rw [if_pos c23] at H
                have c23b0 : decide (0 < ji4) = true := decide_eq_true c23
                clear c23
                by_cases c24 : a1 > 1048576
                · rw [if_pos c24] at H
                  have c24b0 : decide (1048576 < a1) = true := decide_eq_true c24
                  clear c24
                  have H' := Aside0.mk H
                  clear H
                  go_wp2
                  go_meet
                  case rel => exact ⟨_, (true), (by first | rfl | (simp; done) | (simp [*]; done)), H', ⟨by have := HJ6.out; first | omega | exact Nat.le_refl _⟩, ⟨by (with_reducible repeat (first | apply Kd.R_alloc | apply Kd.R_drewN | apply Kd.R_drew)); exact HO214.out⟩, ⟨by repeat (first | (with_reducible first | exact HB.out | apply below_alloc | apply pw_below_drewN | apply below_drew1) | exact HB.out)⟩⟩
                · rw [if_neg c24] at H
                  have c24b0 : decide (1048576 < a1) = false := decide_eq_false c24
                  clear c24
                  have H' := Aside0.mk H
                  clear H
                  go_wp2
                  go_meet
                  case rel => exact ⟨_, (decide (a1 < (-1048576))), (by first | rfl | (simp; done) | (simp [*]; done)), H', ⟨by have := HJ6.out; first | omega | exact Nat.le_refl _⟩, ⟨by (with_reducible repeat (first | apply Kd.R_alloc | apply Kd.R_drewN | apply Kd.R_drew)); exact HO214.out⟩, ⟨by repeat (first | (with_reducible first | exact HB.out | apply below_alloc | apply pw_below_drewN | apply below_drew1) | exact HB.out)⟩⟩
              · rw [if_neg c23] at H
                have c23b0 : decide (0 < ji4) = false := decide_eq_false c23
                clear c23
                have H' := Aside0.mk H
                clear H
                go_wp2
                go_meet
                case rel => exact ⟨_, (false), (by first | rfl | (simp; done) | (simp [*]; done)), H', ⟨by have := HJ6.out; first | omega | exact Nat.le_refl _⟩, ⟨by (with_reducible repeat (first | apply Kd.R_alloc | apply Kd.R_drewN | apply Kd.R_drew)); exact HO214.out⟩, ⟨by repeat (first | (with_reducible first | exact HB.out | apply below_alloc | apply pw_below_drewN | apply below_drew1) | exact HB.out)⟩⟩
          case rest =>
            clear HC19
            try clear c1
            try clear p1
            try clear q1
            try clear hx1
            try clear c2
            try clear p2
            try clear c5
            try clear c5b0
            try clear c5b1
            try clear c6
            try clear c6b0
            try clear c6b1
            try clear p6
            try clear c9
            try clear c10
            try clear c11
            try clear c11b0
            try clear c13
            try clear c13b0
            try clear c14
            try clear c14b0
            try clear c15
            try clear p15
            try clear q15
            try clear hx15
            try clear hf15
            try clear c16
            try clear hx16
            try clear hf16
            try clear c22
            try clear c22b0
            try clear c23
            try clear c23b0
            try clear c24
            try clear c24b0
            try clear hx15_0
            try clear hx15_1
            try clear hx15_2
            try clear hx15_3
            try clear hx15_4
            try clear hx15_5
            try clear hx16_5
            try clear p1
            try clear p15
            try clear p2
            try clear p6
            try clear q1
            try clear q15
            obtain ⟨kq, x40_18, rfl, HA, HJ18, HO_8, HB⟩ := hcut
            cases kq with
            | zero => exact absurd HA.out (by simp [abugidalaw19_AttachLimits.j1])
            | succ kj18 =>
              have H := HA.out
              clear HA
              simp only [abugidalaw19_AttachLimits.j1] at H
              by_cases c25 : x40_18 = true
              · subst c25
                have H1 : (if t207 = true then (some ((t212.length : Int) == 0)) else (some false)) = some r := by rw [if_pos rfl] at H; exact H
                clear H
                have H := H1
                clear H1
                by_cases c26 : t207 = true
                · subst c26
                  have H1 : (some ((t212.length : Int) == 0)) = some r := by rw [if_pos rfl] at H; exact H
                  clear H
                  have H := H1
                  clear H1
                  obtain rfl := Option.some.inj H
                  obtain ⟨Ao27, co27, eo27⟩ := Kd.R_slice HO_8.out
                  subst eo27
                  go_wp2
                  go_ret
                  exact ⟨by first | rfl | (simp [errW_none, errW_some] <;> rfl) | (simp only [← hji4]; first | rfl | (simp [errW_none, errW_some] <;> rfl)) | (simp [*, errW_none, errW_some] <;> rfl), by repeat (first | (with_reducible first | exact HB.out | apply below_alloc | apply pw_below_drewN | apply below_drew1) | exact HB.out)⟩
                · replace c26 := Bool.eq_false_iff.mpr c26
                  subst c26
                  have H1 : (some false) = some r := by rw [if_neg (show ¬ (false = true) by decide)] at H; exact H
                  clear H
                  have H := H1
                  clear H1
                  obtain rfl := Option.some.inj H
                  go_wp2
                  go_ret
                  exact ⟨by first | rfl | (simp [errW_none, errW_some] <;> rfl) | (simp only [← hji4]; first | rfl | (simp [errW_none, errW_some] <;> rfl)) | (simp [*, errW_none, errW_some] <;> rfl), by repeat (first | (with_reducible first | exact HB.out | apply below_alloc | apply pw_below_drewN | apply below_drew1) | exact HB.out)⟩
              · replace c25 := Bool.eq_false_iff.mpr c25
                subst c25
                have H1 : (abugidalaw19_AttachLimits.l0 kj18 t207 ji4 t212 t212 (t212.length : Int) 0) = some r := by rw [if_neg (show ¬ (false = true) by decide)] at H; exact H
                clear H
                have H := H1
                clear H1
                have H' := Aside0.mk H
                clear H
                obtain ⟨Ao28, co28, eo28⟩ := Kd.R_slice HO_8.out
                subst eo28
                go_wp2
                go_loopg [49] kj18 (fun kq v49 w' => ∃ (x49_3 : Int), v49 = .int .i64 x49_3 ∧ Aside0 (abugidalaw19_AttachLimits.l0 kq t207 ji4 t212 t212 (t212.length : Int) x49_3 = some r) ∧ Aside0 (kq ≤ kj18) ∧ Aside0 (Kd.R k37 37 w' w.heap.size (fun _ => True) (.slice Ao28 t212.length co28) t212) ∧ Aside0 (Kd.R k37 37 w' w.heap.size (fun _ => True) (.slice Ao28 t212.length co28) t212) ∧ Aside0 (Below w.heap.size w w'))
                case atStart => exact ⟨(0), (by first | rfl | (simp; done) | (simp [*]; done)), H', ⟨Nat.le_refl _⟩, ⟨by (with_reducible repeat (first | apply Kd.R_alloc | apply Kd.R_drewN | apply Kd.R_drew)); exact HO_8.out⟩, ⟨by (with_reducible repeat (first | apply Kd.R_alloc | apply Kd.R_drewN | apply Kd.R_drew)); exact HO_8.out⟩, ⟨by repeat (first | (with_reducible first | exact HB.out | apply below_alloc | apply pw_below_drewN | apply below_drew1) | exact HB.out)⟩⟩
                case round =>
                  clear H'
                  try clear c1
                  try clear p1
                  try clear q1
                  try clear hx1
                  try clear c2
                  try clear p2
                  try clear c5
                  try clear c5b0
                  try clear c5b1
                  try clear c6
                  try clear c6b0
                  try clear c6b1
                  try clear p6
                  try clear c9
                  try clear c10
                  try clear c11
                  try clear c11b0
                  try clear c13
                  try clear c13b0
                  try clear c14
                  try clear c14b0
                  try clear c15
                  try clear p15
                  try clear q15
                  try clear hx15
                  try clear hf15
                  try clear c16
                  try clear hx16
                  try clear hf16
                  try clear c22
                  try clear c22b0
                  try clear c23
                  try clear c23b0
                  try clear c24
                  try clear c24b0
                  try clear c25
                  try clear c26
                  try clear hx15_0
                  try clear hx15_1
                  try clear hx15_2
                  try clear hx15_3
                  try clear hx15_4
                  try clear hx15_5
                  try clear hx16_5
                  try clear p1
                  try clear p15
                  try clear p2
                  try clear p6
                  try clear q1
                  try clear q15
                  obtain ⟨x49_3, rfl, HA, HK3, HO_8, HO_47, HB⟩ := hrel
                  cases gk with
                  | zero => exact absurd HA.out (by simp [abugidalaw19_AttachLimits.l0])
                  | succ k3 =>
                    have H := HA.out
                    clear HA
                    simp only [abugidalaw19_AttachLimits.l0] at H
                    by_cases c29 : x49_3 < (t212.length : Int)
                    · rw [if_pos c29] at H
                      have c29b0 : decide (x49_3 < (t212.length : Int)) = true := decide_eq_true c29
                      clear c29
                      by_cases c30 : 0 ≤ x49_3
                      · rw [if_pos c30] at H
                        have c30b0 : decide (0 ≤ x49_3) = true := decide_eq_true c30
                        clear c30
                        by_cases c31 : x49_3 < (t212.length : Int)
                        · rw [if_pos c31] at H
                          have c31b0 : decide (x49_3 < (t212.length : Int)) = true := decide_eq_true c31
                          clear c31
                          by_cases c32 : ((rd_T37 t212 x49_3).f0) = 0
                          · rw [if_pos c32] at H
                            have c32b0 : (((rd_T37 t212 x49_3).f0) == 0) = true := beq_iff_eq.mpr c32
                            have c32b1 : (((rd_T37 t212 x49_3).f0) != 0) = false := bne_eq_false_iff_eq.mpr c32
                            clear c32
                            by_cases c33 : ((rd_T37 t212 x49_3).f1) = 0
                            · rw [if_pos c33] at H
                              have c33b0 : (((rd_T37 t212 x49_3).f1) == 0) = true := beq_iff_eq.mpr c33
                              have c33b1 : (((rd_T37 t212 x49_3).f1) != 0) = false := bne_eq_false_iff_eq.mpr c33
                              clear c33
                              have H' := Aside0.mk H
                              clear H
                              have p215 : 0 ≤ (x49_3 : Int) := of_decide_eq_true (by first | (with_reducible assumption) | assumption)
                              have q215 : x49_3 < (t212.length : Int) := of_decide_eq_true (by first | (with_reducible assumption) | assumption)
                              obtain ⟨ad215, e215, hx215_0, hx215_1⟩ := at_T37 (Kd.R_reads' HO_47.out).2.2 x49_3 p215 q215
                              cases e215
                              replace p215 := eq_true p215
                              replace q215 := eq_true q215
                              go_wp2_with (first | ((with_reducible refine gate_dst (N := 10) rfl ?_); (try (refine gate_guard (by rfl) ?_; dsimp only)); refine box_event ?hg (N := 10) ?hd (cs := #[.int .i64 0, .int .i64 0]) (t := 37) ?hr ?_; (case hd => rfl); (case hg => rfl); (case hr => first | (go_simp; done) | (go_simp; rfl)); intro gb216 hg w34 hbox hb; have n0_ := Aside0.mk (Kd.R_below (Kd.R_elderB (by (with_reducible repeat (first | apply Kd.R_alloc | apply Kd.R_drewN | apply Kd.R_drew)); exact HO_8.out) gb216 (Nat.le_of_eq hg.symm)) hb); have n1_ := Aside0.mk (Kd.R_below (Kd.R_elderB (by (with_reducible repeat (first | apply Kd.R_alloc | apply Kd.R_drewN | apply Kd.R_drew)); exact HO_47.out) gb216 (Nat.le_of_eq hg.symm)) hb); have n2_ := Aside0.mk (below_step (by repeat (first | (with_reducible first | exact HB.out | apply below_alloc | apply pw_below_drewN | apply below_drew1) | exact HB.out)) hb); have n3_ := Aside0.mk (hbox); have n4_ := Aside0.mk ((by rw [hg]; exact (below_size (by repeat (first | (with_reducible first | exact HB.out | apply below_alloc | apply pw_below_drewN | apply below_drew1) | exact HB.out))) : w.heap.size ≤ gb216)); have n5_ := Aside0.mk ((by rw [hg]; exact (below_size (by repeat (first | (with_reducible first | exact HB.out | apply below_alloc | apply pw_below_drewN | apply below_drew1) | exact HB.out))) : w.heap.size ≤ gb216)); clear HO_8; clear HO_47; clear HB; have HO_8 := n0_; have HO_47 := n1_; have HB := n2_; have BK216 := n3_; have GW216 := n4_; have GE216 := n5_; clear n0_ n1_ n2_ n3_ n4_ n5_; clear hb hbox hg; have hcz35_0 : w34.cell? ⟨gb216, 0, none⟩ = some (.int .i64 0) := (blk_cell BK216.out 0).trans rfl; have hcz35_1 : w34.cell? ⟨gb216, 1, none⟩ = some (.int .i64 0) := (blk_cell BK216.out 1).trans rfl; have hfz35_0 := blk_frozen BK216.out 0; have hfz35_1 := blk_frozen BK216.out 1))
                              go_roundg k3
                              case measure => have := HJ6.out; have := HJ18.out; have := HK3.out; omega
                              case rel => exact ⟨(wrap64 (x49_3 + 1)), (by first | rfl | (simp; done) | (simp [*]; done)), H', ⟨by have := HJ6.out; have := HJ18.out; have := HK3.out; omega⟩, ⟨by (with_reducible repeat (first | apply Kd.R_alloc | apply Kd.R_drewN | apply Kd.R_drew)); exact Kd.R_mono (Kd.R_far (p := ⟨gb216, 1, none⟩) (Kd.R_far (p := ⟨gb216, 0, none⟩) (Kd.R_mono HO_8.out (fun k_ hk => (⟨hk, hk.2⟩ : _ ∧ k_ ≠ gb216))) (fun _ hk => hk.2) (.int .i64 ((rd_T37 t212 x49_3).f0))) (fun _ hk => hk.2) (.int .i64 ((rd_T37 t212 x49_3).f1))) (fun _ hk => trivial)⟩, ⟨by (with_reducible repeat (first | apply Kd.R_alloc | apply Kd.R_drewN | apply Kd.R_drew)); exact Kd.R_mono (Kd.R_far (p := ⟨gb216, 1, none⟩) (Kd.R_far (p := ⟨gb216, 0, none⟩) (Kd.R_mono HO_47.out (fun k_ hk => (⟨hk, hk.2⟩ : _ ∧ k_ ≠ gb216))) (fun _ hk => hk.2) (.int .i64 ((rd_T37 t212 x49_3).f0))) (fun _ hk => hk.2) (.int .i64 ((rd_T37 t212 x49_3).f1))) (fun _ hk => trivial)⟩, ⟨by repeat (first | (with_reducible first | exact HB.out | apply below_alloc | apply pw_below_drewN | apply below_drew1 | refine below_set ?_ GE216.out) | exact HB.out)⟩⟩
                            · rw [if_neg c33] at H
                              have c33b0 : (((rd_T37 t212 x49_3).f1) == 0) = false := beq_eq_false_iff_ne.mpr c33
                              have c33b1 : (((rd_T37 t212 x49_3).f1) != 0) = true := bne_iff_ne.mpr c33
                              obtain rfl := Option.some.inj H
                              have p215 : 0 ≤ (x49_3 : Int) := of_decide_eq_true (by first | (with_reducible assumption) | assumption)
                              have q215 : x49_3 < (t212.length : Int) := of_decide_eq_true (by first | (with_reducible assumption) | assumption)
                              obtain ⟨ad215, e215, hx215_0, hx215_1⟩ := at_T37 (Kd.R_reads' HO_47.out).2.2 x49_3 p215 q215
                              cases e215
                              replace p215 := eq_true p215
                              replace q215 := eq_true q215
                              go_wp2_with (first | ((with_reducible refine gate_dst (N := 10) rfl ?_); (try (refine gate_guard (by rfl) ?_; dsimp only)); refine box_event ?hg (N := 10) ?hd (cs := #[.int .i64 0, .int .i64 0]) (t := 37) ?hr ?_; (case hd => rfl); (case hg => rfl); (case hr => first | (go_simp; done) | (go_simp; rfl)); intro gb216 hg w36 hbox hb; have n0_ := Aside0.mk (Kd.R_below (Kd.R_elderB (by (with_reducible repeat (first | apply Kd.R_alloc | apply Kd.R_drewN | apply Kd.R_drew)); exact HO_8.out) gb216 (Nat.le_of_eq hg.symm)) hb); have n1_ := Aside0.mk (Kd.R_below (Kd.R_elderB (by (with_reducible repeat (first | apply Kd.R_alloc | apply Kd.R_drewN | apply Kd.R_drew)); exact HO_47.out) gb216 (Nat.le_of_eq hg.symm)) hb); have n2_ := Aside0.mk (below_step (by repeat (first | (with_reducible first | exact HB.out | apply below_alloc | apply pw_below_drewN | apply below_drew1) | exact HB.out)) hb); have n3_ := Aside0.mk (hbox); have n4_ := Aside0.mk ((by rw [hg]; exact (below_size (by repeat (first | (with_reducible first | exact HB.out | apply below_alloc | apply pw_below_drewN | apply below_drew1) | exact HB.out))) : w.heap.size ≤ gb216)); have n5_ := Aside0.mk ((by rw [hg]; exact (below_size (by repeat (first | (with_reducible first | exact HB.out | apply below_alloc | apply pw_below_drewN | apply below_drew1) | exact HB.out))) : w.heap.size ≤ gb216)); clear HO_8; clear HO_47; clear HB; have HO_8 := n0_; have HO_47 := n1_; have HB := n2_; have BK216 := n3_; have GW216 := n4_; have GE216 := n5_; clear n0_ n1_ n2_ n3_ n4_ n5_; clear hb hbox hg; have hcz37_0 : w36.cell? ⟨gb216, 0, none⟩ = some (.int .i64 0) := (blk_cell BK216.out 0).trans rfl; have hcz37_1 : w36.cell? ⟨gb216, 1, none⟩ = some (.int .i64 0) := (blk_cell BK216.out 1).trans rfl; have hfz37_0 := blk_frozen BK216.out 0; have hfz37_1 := blk_frozen BK216.out 1))
                              go_ret
                              exact ⟨by first | rfl | (simp [errW_none, errW_some] <;> rfl) | (simp only [← hji4]; first | rfl | (simp [errW_none, errW_some] <;> rfl)) | (simp [*, errW_none, errW_some] <;> rfl), by repeat (first | (with_reducible first | exact HB.out | apply below_alloc | apply pw_below_drewN | apply below_drew1 | refine below_set ?_ GE216.out) | exact HB.out)⟩
                          · rw [if_neg c32] at H
                            have c32b0 : (((rd_T37 t212 x49_3).f0) == 0) = false := beq_eq_false_iff_ne.mpr c32
                            have c32b1 : (((rd_T37 t212 x49_3).f0) != 0) = true := bne_iff_ne.mpr c32
                            obtain rfl := Option.some.inj H
                            have p215 : 0 ≤ (x49_3 : Int) := of_decide_eq_true (by first | (with_reducible assumption) | assumption)
                            have q215 : x49_3 < (t212.length : Int) := of_decide_eq_true (by first | (with_reducible assumption) | assumption)
                            obtain ⟨ad215, e215, hx215_0, hx215_1⟩ := at_T37 (Kd.R_reads' HO_47.out).2.2 x49_3 p215 q215
                            cases e215
                            replace p215 := eq_true p215
                            replace q215 := eq_true q215
                            go_wp2_with (first | ((with_reducible refine gate_dst (N := 10) rfl ?_); (try (refine gate_guard (by rfl) ?_; dsimp only)); refine box_event ?hg (N := 10) ?hd (cs := #[.int .i64 0, .int .i64 0]) (t := 37) ?hr ?_; (case hd => rfl); (case hg => rfl); (case hr => first | (go_simp; done) | (go_simp; rfl)); intro gb216 hg w38 hbox hb; have n0_ := Aside0.mk (Kd.R_below (Kd.R_elderB (by (with_reducible repeat (first | apply Kd.R_alloc | apply Kd.R_drewN | apply Kd.R_drew)); exact HO_8.out) gb216 (Nat.le_of_eq hg.symm)) hb); have n1_ := Aside0.mk (Kd.R_below (Kd.R_elderB (by (with_reducible repeat (first | apply Kd.R_alloc | apply Kd.R_drewN | apply Kd.R_drew)); exact HO_47.out) gb216 (Nat.le_of_eq hg.symm)) hb); have n2_ := Aside0.mk (below_step (by repeat (first | (with_reducible first | exact HB.out | apply below_alloc | apply pw_below_drewN | apply below_drew1) | exact HB.out)) hb); have n3_ := Aside0.mk (hbox); have n4_ := Aside0.mk ((by rw [hg]; exact (below_size (by repeat (first | (with_reducible first | exact HB.out | apply below_alloc | apply pw_below_drewN | apply below_drew1) | exact HB.out))) : w.heap.size ≤ gb216)); have n5_ := Aside0.mk ((by rw [hg]; exact (below_size (by repeat (first | (with_reducible first | exact HB.out | apply below_alloc | apply pw_below_drewN | apply below_drew1) | exact HB.out))) : w.heap.size ≤ gb216)); clear HO_8; clear HO_47; clear HB; have HO_8 := n0_; have HO_47 := n1_; have HB := n2_; have BK216 := n3_; have GW216 := n4_; have GE216 := n5_; clear n0_ n1_ n2_ n3_ n4_ n5_; clear hb hbox hg; have hcz39_0 : w38.cell? ⟨gb216, 0, none⟩ = some (.int .i64 0) := (blk_cell BK216.out 0).trans rfl; have hcz39_1 : w38.cell? ⟨gb216, 1, none⟩ = some (.int .i64 0) := (blk_cell BK216.out 1).trans rfl; have hfz39_0 := blk_frozen BK216.out 0; have hfz39_1 := blk_frozen BK216.out 1))
                            go_ret
                            exact ⟨by first | rfl | (simp [errW_none, errW_some] <;> rfl) | (simp only [← hji4]; first | rfl | (simp [errW_none, errW_some] <;> rfl)) | (simp [*, errW_none, errW_some] <;> rfl), by repeat (first | (with_reducible first | exact HB.out | apply below_alloc | apply pw_below_drewN | apply below_drew1 | refine below_set ?_ GE216.out) | exact HB.out)⟩
                        · rw [if_neg c31] at H
                          exact absurd H (by simp)
                      · rw [if_neg c30] at H
                        exact absurd H (by simp)
                    · rw [if_neg c29] at H
                      have c29b0 : decide (x49_3 < (t212.length : Int)) = false := decide_eq_false c29
                      clear c29
                      by_cases c40 : t207 = true
                      · subst c40
                        have H1 : (some ((t212.length : Int) == ji4)) = some r := by rw [if_pos rfl] at H; exact H
                        clear H
                        have H := H1
                        clear H1
                        obtain rfl := Option.some.inj H
                        go_wp2
                        go_ret
                        exact ⟨by first | rfl | (simp [errW_none, errW_some] <;> rfl) | (simp only [← hji4]; first | rfl | (simp [errW_none, errW_some] <;> rfl)) | (simp [*, errW_none, errW_some] <;> rfl), by repeat (first | (with_reducible first | exact HB.out | apply below_alloc | apply pw_below_drewN | apply below_drew1) | exact HB.out)⟩
                      · replace c40 := Bool.eq_false_iff.mpr c40
                        subst c40
                        have H1 : (some false) = some r := by rw [if_neg (show ¬ (false = true) by decide)] at H; exact H
                        clear H
                        have H := H1
                        clear H1
                        obtain rfl := Option.some.inj H
                        go_wp2
                        go_ret
                        exact ⟨by first | rfl | (simp [errW_none, errW_some] <;> rfl) | (simp only [← hji4]; first | rfl | (simp [errW_none, errW_some] <;> rfl)) | (simp [*, errW_none, errW_some] <;> rfl), by repeat (first | (with_reducible first | exact HB.out | apply below_alloc | apply pw_below_drewN | apply below_drew1) | exact HB.out)⟩
    · rw [if_neg c6] at H
      exact absurd H (by simp)
  · rw [if_neg c5] at H
    exact absurd H (by simp)

/-- THE ONE PURE STATEMENT of abugidalaw19_AttachLimits: yours. -/
def abugidalaw19_AttachLimits.Pure : Prop := ∀ (a0 : Int) (a1 : Int), (Lit.int .u8 a0).wf = true → (Lit.int .i64 a1).wf = true → ∃ k, abugidalaw19_AttachLimits.f k a0 a1 = some true
theorem abugidalaw19_AttachLimits.walk (P : abugidalaw19_AttachLimits.Pure) (a0 : Int) (a1 : Int) (w : World) (w0 : (Lit.int .u8 a0).wf = true) (w1 : (Lit.int .i64 a1).wf = true) :
    Calls Try.prog 9 #[.int .u8 a0, .int .i64 a1] w fun e w' => e = .returned (.bool true) ∧ Below w.heap.size w w' := by
  obtain ⟨k, h⟩ := P a0 a1 w0 w1
  refine (abugidalaw19_AttachLimits.calls k a0 a1 true w h).mono ?_
  rintro e w' ⟨rfl, hd⟩
  exact ⟨rfl, hd⟩

end Go.Proofs.Ytnnkbcgoockniaa.Q

-- Written by wip/tools/myprint.py, a program of this session that drives the kit's print.py; not a text of print.sh.
import Derived.Test.YtnnkbcgoockniaaEqArr
import Derived.Test.YtnnkbcgoockniaaQx0
import Derived.Test.YtnnkbcgoockniaaQx1
import Derived.Test.YtnnkbcgoockniaaQx2
import Derived.Test.YtnnkbcgoockniaaQx3
namespace Go.Proofs.Ytnnkbcgoockniaa.Q
open Go.RowKit Go.Proofs.YtnnkbcgoockniaaW.PrintWords Go.Proofs.YtnnkbcgoockniaaW.PrintLast Go.Proofs.YtnnkbcgoockniaaW.PrintMore
attribute [local go_sem] run_eq37 run_eq37m run_eq37n max2_int min2_int max_two min_two max_three min_three max_four min_four   -- for this text's walks alone
set_option linter.unusedVariables false
set_option linter.unusedSimpArgs false

/-! ### abugidalaw19_sanity: function 10 -/
def abugidalaw19_sanity.l0 : Nat → List (S42) → Int → Int → Option (Bool)
  | 0, _, _, _ => none
  | k + 1, x28, x29, x30 => if x30 < x29 then (if 0 ≤ x30 then (if x30 < (x28.length : Int) then ((abugidalaw19_glyphs.f ((rd_T42 x28 x30).f0)).bind fun t123 => ((attach_Places.f t123).bind fun t126 => ((abugidaref19_Same.f k t126 ((rd_T42 x28 x30).f1)).bind fun t129 => (if t129 = true then (abugidalaw19_sanity.l0 k x28 x29 (wrap64 (x30 + 1))) else (some false))))) else (none)) else (none)) else (some true)
def abugidalaw19_sanity.f (k : Nat)  : Option (Bool) := (some (([(⟨(⟨#[97, 98, 97]⟩ : ByteArray), (([(⟨0, 0⟩ : S37), (⟨10, 0⟩ : S37), (⟨16, 0⟩ : S37)] : List (S37)))⟩ : S42), (⟨(⟨#[97, 109, 109]⟩ : ByteArray), (([(⟨0, 0⟩ : S37), (⟨3, 20⟩ : S37), (⟨3, 28⟩ : S37)] : List (S37)))⟩ : S42), (⟨(⟨#[97, 98, 109, 110]⟩ : ByteArray), (([(⟨0, 0⟩ : S37), (⟨10, 0⟩ : S37), (⟨3, 20⟩ : S37), (⟨5, (-5)⟩ : S37)] : List (S37)))⟩ : S42), (⟨(⟨#[109, 97]⟩ : ByteArray), (([(⟨0, 0⟩ : S37), (⟨0, 0⟩ : S37)] : List (S37)))⟩ : S42), (⟨(⟨#[98, 110, 97]⟩ : ByteArray), (([(⟨0, 0⟩ : S37), (⟨6, 0⟩ : S37), (⟨6, 0⟩ : S37)] : List (S37)))⟩ : S42)] : List (S42)) : List (S42))).bind fun y118 => (abugidalaw19_sanity.l0 k y118 (y118.length : Int) 0)
theorem abugidalaw19_sanity.mono_l : ∀ k, (∀ y0 y1 y2, LeO (abugidalaw19_sanity.l0 k y0 y1 y2) (abugidalaw19_sanity.l0 (k + 1) y0 y1 y2))
  | 0 => fun _ _ _ r h => by simp [abugidalaw19_sanity.l0] at h
  | k + 1 => by
    have ih0 := abugidalaw19_sanity.mono_l k
    · intro y0 y1 y2
      unfold abugidalaw19_sanity.l0
      repeat' first
      | (with_reducible exact ih0 _ _ _)
      | (with_reducible exact abugidaref19_Same.mono _ _ _)
      | (with_reducible exact LeO.refl _)
      | (with_reducible exact LeO.none _)
      | (with_reducible refine LeO.ite ?_ ?_)
      | (with_reducible refine LeO.bind ?_ (fun _ => ?_))
      | exact ih0 _ _ _
      | exact abugidaref19_Same.mono _ _ _
      | exact LeO.none _
      | refine LeO.ite ?_ ?_
      | refine LeO.bind ?_ (fun _ => ?_)
theorem abugidalaw19_sanity.mono : ∀ k, LeO (abugidalaw19_sanity.f k ) (abugidalaw19_sanity.f (k + 1) ) := by
  intro  k
  have ih0 := abugidalaw19_sanity.mono_l k
  unfold abugidalaw19_sanity.f
  repeat' first
      | (with_reducible exact ih0 _ _ _)
      | (with_reducible exact abugidaref19_Same.mono _ _ _)
      | (with_reducible exact LeO.refl _)
      | (with_reducible exact LeO.none _)
      | (with_reducible refine LeO.ite ?_ ?_)
      | (with_reducible refine LeO.bind ?_ (fun _ => ?_))
      | exact ih0 _ _ _
      | exact abugidaref19_Same.mono _ _ _
      | exact LeO.none _
      | refine LeO.ite ?_ ?_
      | refine LeO.bind ?_ (fun _ => ?_)
def abugidalaw19_sanity.T4 : Bool × List (List Nat × List Nat) := (true, [([], []), ([0], [0]), ([1], [1]), ([2, 2], [2]), ([], []), ([4], [4]), ([3, 5, 3], [3, 5]), ([6], [6])])
def abugidalaw19_sanity.B4 : List Nat := [0, 1, 3, 7, 0, 16, 63, 127]
theorem abugidalaw19_sanity.tab4 : rtab .any (opsOf Try.f10 4) = abugidalaw19_sanity.T4 := by kernel_rfl
theorem abugidalaw19_sanity.bits4 : waitsOk abugidalaw19_sanity.T4.2 abugidalaw19_sanity.B4 = true := by kernel_rfl
set_option maxHeartbeats 8000000 in
set_option maxRecDepth 100000 in
theorem abugidalaw19_sanity.calls (k : Nat)  (r : Bool) (w : World) (h : abugidalaw19_sanity.f k  = some r) :
    Calls Try.prog 10 #[] w fun e w' => e = .returned (.bool r) ∧ Below w.heap.size w w' := by
  have hu37 := Try.underlying37
  have hu42 := Try.underlying42
  have HB := Aside0.mk (Below.refl w.heap.size w)
  have H : ((some (([(⟨(⟨#[97, 98, 97]⟩ : ByteArray), (([(⟨0, 0⟩ : S37), (⟨10, 0⟩ : S37), (⟨16, 0⟩ : S37)] : List (S37)))⟩ : S42), (⟨(⟨#[97, 109, 109]⟩ : ByteArray), (([(⟨0, 0⟩ : S37), (⟨3, 20⟩ : S37), (⟨3, 28⟩ : S37)] : List (S37)))⟩ : S42), (⟨(⟨#[97, 98, 109, 110]⟩ : ByteArray), (([(⟨0, 0⟩ : S37), (⟨10, 0⟩ : S37), (⟨3, 20⟩ : S37), (⟨5, (-5)⟩ : S37)] : List (S37)))⟩ : S42), (⟨(⟨#[109, 97]⟩ : ByteArray), (([(⟨0, 0⟩ : S37), (⟨0, 0⟩ : S37)] : List (S37)))⟩ : S42), (⟨(⟨#[98, 110, 97]⟩ : ByteArray), (([(⟨0, 0⟩ : S37), (⟨6, 0⟩ : S37), (⟨6, 0⟩ : S37)] : List (S37)))⟩ : S42)] : List (S42)) : List (S42))).bind fun y118 => (abugidalaw19_sanity.l0 k y118 (y118.length : Int) 0)) = some r := h
  clear h
  obtain ⟨y103, hy103⟩ : ∃ y_ : List (S37), y_ = (([(⟨0, 0⟩ : S37), (⟨10, 0⟩ : S37), (⟨16, 0⟩ : S37)] : List (S37))) := ⟨_, rfl⟩
  replace H : ((some (([(⟨(⟨#[97, 98, 97]⟩ : ByteArray), y103⟩ : S42), (⟨(⟨#[97, 109, 109]⟩ : ByteArray), (([(⟨0, 0⟩ : S37), (⟨3, 20⟩ : S37), (⟨3, 28⟩ : S37)] : List (S37)))⟩ : S42), (⟨(⟨#[97, 98, 109, 110]⟩ : ByteArray), (([(⟨0, 0⟩ : S37), (⟨10, 0⟩ : S37), (⟨3, 20⟩ : S37), (⟨5, (-5)⟩ : S37)] : List (S37)))⟩ : S42), (⟨(⟨#[109, 97]⟩ : ByteArray), (([(⟨0, 0⟩ : S37), (⟨0, 0⟩ : S37)] : List (S37)))⟩ : S42), (⟨(⟨#[98, 110, 97]⟩ : ByteArray), (([(⟨0, 0⟩ : S37), (⟨6, 0⟩ : S37), (⟨6, 0⟩ : S37)] : List (S37)))⟩ : S42)] : List (S42)) : List (S42))).bind fun y118 => (abugidalaw19_sanity.l0 k y118 (y118.length : Int) 0)) = some r := by first | (rw [hy103]; with_reducible exact H) | (have H2_ := (Option.bind_some _ _).symm.trans H; rw [hy103]; with_reducible exact H2_) | (have H2_ := (Option.bind_some _ _).symm.trans H; with_reducible exact H2_) | with_reducible exact H | (rw [hy103]; exact H) | exact H
  have Ny103 := Aside0.mk hy103
  clear hy103
  obtain ⟨y106, hy106⟩ : ∃ y_ : List (S37), y_ = (([(⟨0, 0⟩ : S37), (⟨3, 20⟩ : S37), (⟨3, 28⟩ : S37)] : List (S37))) := ⟨_, rfl⟩
  replace H : ((some (([(⟨(⟨#[97, 98, 97]⟩ : ByteArray), y103⟩ : S42), (⟨(⟨#[97, 109, 109]⟩ : ByteArray), y106⟩ : S42), (⟨(⟨#[97, 98, 109, 110]⟩ : ByteArray), (([(⟨0, 0⟩ : S37), (⟨10, 0⟩ : S37), (⟨3, 20⟩ : S37), (⟨5, (-5)⟩ : S37)] : List (S37)))⟩ : S42), (⟨(⟨#[109, 97]⟩ : ByteArray), (([(⟨0, 0⟩ : S37), (⟨0, 0⟩ : S37)] : List (S37)))⟩ : S42), (⟨(⟨#[98, 110, 97]⟩ : ByteArray), (([(⟨0, 0⟩ : S37), (⟨6, 0⟩ : S37), (⟨6, 0⟩ : S37)] : List (S37)))⟩ : S42)] : List (S42)) : List (S42))).bind fun y118 => (abugidalaw19_sanity.l0 k y118 (y118.length : Int) 0)) = some r := by first | (rw [hy106]; with_reducible exact H) | (have H2_ := (Option.bind_some _ _).symm.trans H; rw [hy106]; with_reducible exact H2_) | (have H2_ := (Option.bind_some _ _).symm.trans H; with_reducible exact H2_) | with_reducible exact H | (rw [hy106]; exact H) | exact H
  have Ny106 := Aside0.mk hy106
  clear hy106
  obtain ⟨y109, hy109⟩ : ∃ y_ : List (S37), y_ = (([(⟨0, 0⟩ : S37), (⟨10, 0⟩ : S37), (⟨3, 20⟩ : S37), (⟨5, (-5)⟩ : S37)] : List (S37))) := ⟨_, rfl⟩
  replace H : ((some (([(⟨(⟨#[97, 98, 97]⟩ : ByteArray), y103⟩ : S42), (⟨(⟨#[97, 109, 109]⟩ : ByteArray), y106⟩ : S42), (⟨(⟨#[97, 98, 109, 110]⟩ : ByteArray), y109⟩ : S42), (⟨(⟨#[109, 97]⟩ : ByteArray), (([(⟨0, 0⟩ : S37), (⟨0, 0⟩ : S37)] : List (S37)))⟩ : S42), (⟨(⟨#[98, 110, 97]⟩ : ByteArray), (([(⟨0, 0⟩ : S37), (⟨6, 0⟩ : S37), (⟨6, 0⟩ : S37)] : List (S37)))⟩ : S42)] : List (S42)) : List (S42))).bind fun y118 => (abugidalaw19_sanity.l0 k y118 (y118.length : Int) 0)) = some r := by first | (rw [hy109]; with_reducible exact H) | (have H2_ := (Option.bind_some _ _).symm.trans H; rw [hy109]; with_reducible exact H2_) | (have H2_ := (Option.bind_some _ _).symm.trans H; with_reducible exact H2_) | with_reducible exact H | (rw [hy109]; exact H) | exact H
  have Ny109 := Aside0.mk hy109
  clear hy109
  obtain ⟨y112, hy112⟩ : ∃ y_ : List (S37), y_ = (([(⟨0, 0⟩ : S37), (⟨0, 0⟩ : S37)] : List (S37))) := ⟨_, rfl⟩
  replace H : ((some (([(⟨(⟨#[97, 98, 97]⟩ : ByteArray), y103⟩ : S42), (⟨(⟨#[97, 109, 109]⟩ : ByteArray), y106⟩ : S42), (⟨(⟨#[97, 98, 109, 110]⟩ : ByteArray), y109⟩ : S42), (⟨(⟨#[109, 97]⟩ : ByteArray), y112⟩ : S42), (⟨(⟨#[98, 110, 97]⟩ : ByteArray), (([(⟨0, 0⟩ : S37), (⟨6, 0⟩ : S37), (⟨6, 0⟩ : S37)] : List (S37)))⟩ : S42)] : List (S42)) : List (S42))).bind fun y118 => (abugidalaw19_sanity.l0 k y118 (y118.length : Int) 0)) = some r := by first | (rw [hy112]; with_reducible exact H) | (have H2_ := (Option.bind_some _ _).symm.trans H; rw [hy112]; with_reducible exact H2_) | (have H2_ := (Option.bind_some _ _).symm.trans H; with_reducible exact H2_) | with_reducible exact H | (rw [hy112]; exact H) | exact H
  have Ny112 := Aside0.mk hy112
  clear hy112
  obtain ⟨y115, hy115⟩ : ∃ y_ : List (S37), y_ = (([(⟨0, 0⟩ : S37), (⟨6, 0⟩ : S37), (⟨6, 0⟩ : S37)] : List (S37))) := ⟨_, rfl⟩
  replace H : ((some (([(⟨(⟨#[97, 98, 97]⟩ : ByteArray), y103⟩ : S42), (⟨(⟨#[97, 109, 109]⟩ : ByteArray), y106⟩ : S42), (⟨(⟨#[97, 98, 109, 110]⟩ : ByteArray), y109⟩ : S42), (⟨(⟨#[109, 97]⟩ : ByteArray), y112⟩ : S42), (⟨(⟨#[98, 110, 97]⟩ : ByteArray), y115⟩ : S42)] : List (S42)) : List (S42))).bind fun y118 => (abugidalaw19_sanity.l0 k y118 (y118.length : Int) 0)) = some r := by first | (rw [hy115]; with_reducible exact H) | (have H2_ := (Option.bind_some _ _).symm.trans H; rw [hy115]; with_reducible exact H2_) | (have H2_ := (Option.bind_some _ _).symm.trans H; with_reducible exact H2_) | with_reducible exact H | (rw [hy115]; exact H) | exact H
  have Ny115 := Aside0.mk hy115
  clear hy115
  obtain ⟨y118, hy118⟩ : ∃ y_ : List (S42), y_ = (([(⟨(⟨#[97, 98, 97]⟩ : ByteArray), y103⟩ : S42), (⟨(⟨#[97, 109, 109]⟩ : ByteArray), y106⟩ : S42), (⟨(⟨#[97, 98, 109, 110]⟩ : ByteArray), y109⟩ : S42), (⟨(⟨#[109, 97]⟩ : ByteArray), y112⟩ : S42), (⟨(⟨#[98, 110, 97]⟩ : ByteArray), y115⟩ : S42)] : List (S42))) := ⟨_, rfl⟩
  replace H : (abugidalaw19_sanity.l0 k y118 (y118.length : Int) 0) = some r := by first | (rw [hy118]; with_reducible exact H) | (have H2_ := (Option.bind_some _ _).symm.trans H; rw [hy118]; with_reducible exact H2_) | (have H2_ := (Option.bind_some _ _).symm.trans H; with_reducible exact H2_) | with_reducible exact H | (rw [hy118]; exact H) | exact H
  have Ny118 := Aside0.mk hy118
  clear hy118
  have H' := Aside0.mk H
  clear H
  go_enter Try.func10, Try.ntmps10
  go_wp2_with (first | ((with_reducible refine gate_dst (N := 6) rfl ?_); refine Kd.R_lit k37 _ 37 ?hg (N := 6) ?hd (xs := ([(⟨0, 0⟩ : S37), (⟨10, 0⟩ : S37), (⟨16, 0⟩ : S37)] : List (S37))) (inner := [.int .i64 0, .int .i64 0, .int .i64 10, .int .i64 0, .int .i64 16, .int .i64 0]) (ok := fun _ => True) (okp := fun _ => True) ?hr ?hp (fun _ hk => hk) trivial (Below.refl _ _) (Nat.le_refl _) (by simp) ?_; (case hd => rfl); (case hg => rfl); (case hr => first | (go_simp; done) | (go_simp; rfl)); (case hp => exact (Reps.c2 (show Kd.M k37 _ _ _ (⟨0, 0⟩ : S37) [.int .i64 0, .int .i64 0] from (k37_mkM _ _ _ (⟨0, 0⟩ : S37) )) (Reps.c2 (show Kd.M k37 _ _ _ (⟨10, 0⟩ : S37) [.int .i64 10, .int .i64 0] from (k37_mkM _ _ _ (⟨10, 0⟩ : S37) )) (Reps.c2 (show Kd.M k37 _ _ _ (⟨16, 0⟩ : S37) [.int .i64 16, .int .i64 0] from (k37_mkM _ _ _ (⟨16, 0⟩ : S37) )) (Reps.none _ _))))); intro v104 w1 ho2 hb hg_ hnew_; clear hg_ hnew_; (first | rw [← Ny103.out] at ho2 | (simp only [Int.reduceToNat] at ho2; rw [← Ny103.out] at ho2)); have n0_ := Aside0.mk (Kd.R_lower ho2 (below_size (by repeat (first | (with_reducible first | exact HB.out | apply below_alloc | apply pw_below_drewN | apply below_drew1) | exact HB.out)))); have n1_ := Aside0.mk (below_step (by repeat (first | (with_reducible first | exact HB.out | apply below_alloc | apply pw_below_drewN | apply below_drew1) | exact HB.out)) hb); clear HB; have HO105 := n0_; have HB := n1_; clear n0_ n1_; clear hb ho2; obtain ⟨Ao3, co3, eo3⟩ := Kd.R_slice HO105.out; subst eo3) | ((with_reducible refine gate_dst (N := 11) rfl ?_); refine Kd.R_lit k37 _ 37 ?hg (N := 11) ?hd (xs := ([(⟨0, 0⟩ : S37), (⟨3, 20⟩ : S37), (⟨3, 28⟩ : S37)] : List (S37))) (inner := [.int .i64 0, .int .i64 0, .int .i64 3, .int .i64 20, .int .i64 3, .int .i64 28]) (ok := fun _ => True) (okp := fun _ => True) ?hr ?hp (fun _ hk => hk) trivial (Below.refl _ _) (Nat.le_refl _) (by simp) ?_; (case hd => rfl); (case hg => rfl); (case hr => first | (go_simp; done) | (go_simp; rfl)); (case hp => exact (Reps.c2 (show Kd.M k37 _ _ _ (⟨0, 0⟩ : S37) [.int .i64 0, .int .i64 0] from (k37_mkM _ _ _ (⟨0, 0⟩ : S37) )) (Reps.c2 (show Kd.M k37 _ _ _ (⟨3, 20⟩ : S37) [.int .i64 3, .int .i64 20] from (k37_mkM _ _ _ (⟨3, 20⟩ : S37) )) (Reps.c2 (show Kd.M k37 _ _ _ (⟨3, 28⟩ : S37) [.int .i64 3, .int .i64 28] from (k37_mkM _ _ _ (⟨3, 28⟩ : S37) )) (Reps.none _ _))))); intro v107 w4 ho5 hb hg_ hnew_; clear hg_ hnew_; (first | rw [← Ny106.out] at ho5 | (simp only [Int.reduceToNat] at ho5; rw [← Ny106.out] at ho5)); have n0_ := Aside0.mk (Kd.R_elder' (by (with_reducible repeat (first | apply Kd.R_alloc | apply Kd.R_drewN | apply Kd.R_drew)); exact HO105.out) (Kd.R_base ho5) hb); have n1_ := Aside0.mk (Kd.R_lower (Kd.R_new' ho5 (Kd.R_lt (by (with_reducible repeat (first | apply Kd.R_alloc | apply Kd.R_drewN | apply Kd.R_drew)); exact HO105.out))) (below_size (by repeat (first | (with_reducible first | exact HB.out | apply below_alloc | apply pw_below_drewN | apply below_drew1) | exact HB.out)))); have n2_ := Aside0.mk (below_step (by repeat (first | (with_reducible first | exact HB.out | apply below_alloc | apply pw_below_drewN | apply below_drew1) | exact HB.out)) hb); clear HO105; clear HB; have HO105 := n0_; have HO108 := n1_; have HB := n2_; clear n0_ n1_ n2_; clear hb ho5; obtain ⟨Ao6, co6, eo6⟩ := Kd.R_slice HO108.out; subst eo6) | ((with_reducible refine gate_dst (N := 17) rfl ?_); refine Kd.R_lit k37 _ 37 ?hg (N := 17) ?hd (xs := ([(⟨0, 0⟩ : S37), (⟨10, 0⟩ : S37), (⟨3, 20⟩ : S37), (⟨5, (-5)⟩ : S37)] : List (S37))) (inner := [.int .i64 0, .int .i64 0, .int .i64 10, .int .i64 0, .int .i64 3, .int .i64 20, .int .i64 5, .int .i64 (-5)]) (ok := fun _ => True) (okp := fun _ => True) ?hr ?hp (fun _ hk => hk) trivial (Below.refl _ _) (Nat.le_refl _) (by simp) ?_; (case hd => rfl); (case hg => rfl); (case hr => first | (go_simp; done) | (go_simp; rfl)); (case hp => exact (Reps.c2 (show Kd.M k37 _ _ _ (⟨0, 0⟩ : S37) [.int .i64 0, .int .i64 0] from (k37_mkM _ _ _ (⟨0, 0⟩ : S37) )) (Reps.c2 (show Kd.M k37 _ _ _ (⟨10, 0⟩ : S37) [.int .i64 10, .int .i64 0] from (k37_mkM _ _ _ (⟨10, 0⟩ : S37) )) (Reps.c2 (show Kd.M k37 _ _ _ (⟨3, 20⟩ : S37) [.int .i64 3, .int .i64 20] from (k37_mkM _ _ _ (⟨3, 20⟩ : S37) )) (Reps.c2 (show Kd.M k37 _ _ _ (⟨5, (-5)⟩ : S37) [.int .i64 5, .int .i64 (-5)] from (k37_mkM _ _ _ (⟨5, (-5)⟩ : S37) )) (Reps.none _ _)))))); intro v110 w7 ho8 hb hg_ hnew_; clear hg_ hnew_; (first | rw [← Ny109.out] at ho8 | (simp only [Int.reduceToNat] at ho8; rw [← Ny109.out] at ho8)); have n0_ := Aside0.mk (Kd.R_elder' (by (with_reducible repeat (first | apply Kd.R_alloc | apply Kd.R_drewN | apply Kd.R_drew)); exact HO105.out) (Kd.R_base ho8) hb); have n1_ := Aside0.mk (Kd.R_elder' (by (with_reducible repeat (first | apply Kd.R_alloc | apply Kd.R_drewN | apply Kd.R_drew)); exact HO108.out) (Kd.R_base ho8) hb); have n2_ := Aside0.mk (Kd.R_lower (Kd.R_new' (Kd.R_new' ho8 (Kd.R_lt (by (with_reducible repeat (first | apply Kd.R_alloc | apply Kd.R_drewN | apply Kd.R_drew)); exact HO105.out))) (Kd.R_lt (by (with_reducible repeat (first | apply Kd.R_alloc | apply Kd.R_drewN | apply Kd.R_drew)); exact HO108.out))) (below_size (by repeat (first | (with_reducible first | exact HB.out | apply below_alloc | apply pw_below_drewN | apply below_drew1) | exact HB.out)))); have n3_ := Aside0.mk (below_step (by repeat (first | (with_reducible first | exact HB.out | apply below_alloc | apply pw_below_drewN | apply below_drew1) | exact HB.out)) hb); clear HO105; clear HO108; clear HB; have HO105 := n0_; have HO108 := n1_; have HO111 := n2_; have HB := n3_; clear n0_ n1_ n2_ n3_; clear hb ho8; obtain ⟨Ao9, co9, eo9⟩ := Kd.R_slice HO111.out; subst eo9) | ((with_reducible refine gate_dst (N := 21) rfl ?_); refine Kd.R_lit k37 _ 37 ?hg (N := 21) ?hd (xs := ([(⟨0, 0⟩ : S37), (⟨0, 0⟩ : S37)] : List (S37))) (inner := [.int .i64 0, .int .i64 0, .int .i64 0, .int .i64 0]) (ok := fun _ => True) (okp := fun _ => True) ?hr ?hp (fun _ hk => hk) trivial (Below.refl _ _) (Nat.le_refl _) (by simp) ?_; (case hd => rfl); (case hg => rfl); (case hr => first | (go_simp; done) | (go_simp; rfl)); (case hp => exact (Reps.c2 (show Kd.M k37 _ _ _ (⟨0, 0⟩ : S37) [.int .i64 0, .int .i64 0] from (k37_mkM _ _ _ (⟨0, 0⟩ : S37) )) (Reps.c2 (show Kd.M k37 _ _ _ (⟨0, 0⟩ : S37) [.int .i64 0, .int .i64 0] from (k37_mkM _ _ _ (⟨0, 0⟩ : S37) )) (Reps.none _ _)))); intro v113 w10 ho11 hb hg_ hnew_; clear hg_ hnew_; (first | rw [← Ny112.out] at ho11 | (simp only [Int.reduceToNat] at ho11; rw [← Ny112.out] at ho11)); have n0_ := Aside0.mk (Kd.R_elder' (by (with_reducible repeat (first | apply Kd.R_alloc | apply Kd.R_drewN | apply Kd.R_drew)); exact HO105.out) (Kd.R_base ho11) hb); have n1_ := Aside0.mk (Kd.R_elder' (by (with_reducible repeat (first | apply Kd.R_alloc | apply Kd.R_drewN | apply Kd.R_drew)); exact HO108.out) (Kd.R_base ho11) hb); have n2_ := Aside0.mk (Kd.R_elder' (by (with_reducible repeat (first | apply Kd.R_alloc | apply Kd.R_drewN | apply Kd.R_drew)); exact HO111.out) (Kd.R_base ho11) hb); have n3_ := Aside0.mk (Kd.R_lower (Kd.R_new' (Kd.R_new' (Kd.R_new' ho11 (Kd.R_lt (by (with_reducible repeat (first | apply Kd.R_alloc | apply Kd.R_drewN | apply Kd.R_drew)); exact HO105.out))) (Kd.R_lt (by (with_reducible repeat (first | apply Kd.R_alloc | apply Kd.R_drewN | apply Kd.R_drew)); exact HO108.out))) (Kd.R_lt (by (with_reducible repeat (first | apply Kd.R_alloc | apply Kd.R_drewN | apply Kd.R_drew)); exact HO111.out))) (below_size (by repeat (first | (with_reducible first | exact HB.out | apply below_alloc | apply pw_below_drewN | apply below_drew1) | exact HB.out)))); have n4_ := Aside0.mk (below_step (by repeat (first | (with_reducible first | exact HB.out | apply below_alloc | apply pw_below_drewN | apply below_drew1) | exact HB.out)) hb); clear HO105; clear HO108; clear HO111; clear HB; have HO105 := n0_; have HO108 := n1_; have HO111 := n2_; have HO114 := n3_; have HB := n4_; clear n0_ n1_ n2_ n3_ n4_; clear hb ho11; obtain ⟨Ao12, co12, eo12⟩ := Kd.R_slice HO114.out; subst eo12) | ((with_reducible refine gate_dst (N := 26) rfl ?_); refine Kd.R_lit k37 _ 37 ?hg (N := 26) ?hd (xs := ([(⟨0, 0⟩ : S37), (⟨6, 0⟩ : S37), (⟨6, 0⟩ : S37)] : List (S37))) (inner := [.int .i64 0, .int .i64 0, .int .i64 6, .int .i64 0, .int .i64 6, .int .i64 0]) (ok := fun _ => True) (okp := fun _ => True) ?hr ?hp (fun _ hk => hk) trivial (Below.refl _ _) (Nat.le_refl _) (by simp) ?_; (case hd => rfl); (case hg => rfl); (case hr => first | (go_simp; done) | (go_simp; rfl)); (case hp => exact (Reps.c2 (show Kd.M k37 _ _ _ (⟨0, 0⟩ : S37) [.int .i64 0, .int .i64 0] from (k37_mkM _ _ _ (⟨0, 0⟩ : S37) )) (Reps.c2 (show Kd.M k37 _ _ _ (⟨6, 0⟩ : S37) [.int .i64 6, .int .i64 0] from (k37_mkM _ _ _ (⟨6, 0⟩ : S37) )) (Reps.c2 (show Kd.M k37 _ _ _ (⟨6, 0⟩ : S37) [.int .i64 6, .int .i64 0] from (k37_mkM _ _ _ (⟨6, 0⟩ : S37) )) (Reps.none _ _))))); intro v116 w13 ho14 hb hg_ hnew_; clear hg_ hnew_; (first | rw [← Ny115.out] at ho14 | (simp only [Int.reduceToNat] at ho14; rw [← Ny115.out] at ho14)); have n0_ := Aside0.mk (Kd.R_elder' (by (with_reducible repeat (first | apply Kd.R_alloc | apply Kd.R_drewN | apply Kd.R_drew)); exact HO105.out) (Kd.R_base ho14) hb); have n1_ := Aside0.mk (Kd.R_elder' (by (with_reducible repeat (first | apply Kd.R_alloc | apply Kd.R_drewN | apply Kd.R_drew)); exact HO108.out) (Kd.R_base ho14) hb); have n2_ := Aside0.mk (Kd.R_elder' (by (with_reducible repeat (first | apply Kd.R_alloc | apply Kd.R_drewN | apply Kd.R_drew)); exact HO111.out) (Kd.R_base ho14) hb); have n3_ := Aside0.mk (Kd.R_elder' (by (with_reducible repeat (first | apply Kd.R_alloc | apply Kd.R_drewN | apply Kd.R_drew)); exact HO114.out) (Kd.R_base ho14) hb); have n4_ := Aside0.mk (Kd.R_lower (Kd.R_new' (Kd.R_new' (Kd.R_new' (Kd.R_new' ho14 (Kd.R_lt (by (with_reducible repeat (first | apply Kd.R_alloc | apply Kd.R_drewN | apply Kd.R_drew)); exact HO105.out))) (Kd.R_lt (by (with_reducible repeat (first | apply Kd.R_alloc | apply Kd.R_drewN | apply Kd.R_drew)); exact HO108.out))) (Kd.R_lt (by (with_reducible repeat (first | apply Kd.R_alloc | apply Kd.R_drewN | apply Kd.R_drew)); exact HO111.out))) (Kd.R_lt (by (with_reducible repeat (first | apply Kd.R_alloc | apply Kd.R_drewN | apply Kd.R_drew)); exact HO114.out))) (below_size (by repeat (first | (with_reducible first | exact HB.out | apply below_alloc | apply pw_below_drewN | apply below_drew1) | exact HB.out)))); have n5_ := Aside0.mk (below_step (by repeat (first | (with_reducible first | exact HB.out | apply below_alloc | apply pw_below_drewN | apply below_drew1) | exact HB.out)) hb); clear HO105; clear HO108; clear HO111; clear HO114; clear HB; have HO105 := n0_; have HO108 := n1_; have HO111 := n2_; have HO114 := n3_; have HO117 := n4_; have HB := n5_; clear n0_ n1_ n2_ n3_ n4_ n5_; clear hb ho14; obtain ⟨Ao15, co15, eo15⟩ := Kd.R_slice HO117.out; subst eo15) | ((with_reducible refine gate_dst (N := 28) rfl ?_); refine Kd.N_lit k42 _ 42 ?hg (N' := 28) ?hd (xs := ([(⟨(⟨#[97, 98, 97]⟩ : ByteArray), y103⟩ : S42), (⟨(⟨#[97, 109, 109]⟩ : ByteArray), y106⟩ : S42), (⟨(⟨#[97, 98, 109, 110]⟩ : ByteArray), y109⟩ : S42), (⟨(⟨#[109, 97]⟩ : ByteArray), y112⟩ : S42), (⟨(⟨#[98, 110, 97]⟩ : ByteArray), y115⟩ : S42)] : List (S42))) (inner := [.string (⟨#[97, 98, 97]⟩ : ByteArray), .slice Ao3 y103.length co3, .string (⟨#[97, 109, 109]⟩ : ByteArray), .slice Ao6 y106.length co6, .string (⟨#[97, 98, 109, 110]⟩ : ByteArray), .slice Ao9 y109.length co9, .string (⟨#[109, 97]⟩ : ByteArray), .slice Ao12 y112.length co12, .string (⟨#[98, 110, 97]⟩ : ByteArray), .slice Ao15 y115.length co15]) (ok := (fun _ => True)) (okp := (fun _ => True)) ?hr ?hp (fun _ hk => hk) ((show ∀ k_, w13.heap.size ≤ k_ → (fun _ => True) k_ from fun k_ hk => trivial) _ (Nat.le_refl _)) (Below.refl _ _) (Nat.le_refl _) (by simp) ?_; (case hd => rfl); (case hg => rfl); (case hr => first | (go_simp; done) | (go_simp; rfl)); (case hp => exact (Reps.c2 (show Kd.FK k42 _ _ (⟨(⟨#[97, 98, 97]⟩ : ByteArray), y103⟩ : S42) [.string (⟨#[97, 98, 97]⟩ : ByteArray), .slice Ao3 y103.length co3] from (k42_mkF _ _ (⟨(⟨#[97, 98, 97]⟩ : ByteArray), y103⟩ : S42) (Kd.R_reads' (Kd.R_mono (ok' := (fun _ => True)) (HO105.out) (fun k_ hk => trivial))).2.1 (Kd.R_F (Kd.R_mono (ok' := (fun _ => True)) (HO105.out) (fun k_ hk => trivial))))) (Reps.c2 (show Kd.FK k42 _ _ (⟨(⟨#[97, 109, 109]⟩ : ByteArray), y106⟩ : S42) [.string (⟨#[97, 109, 109]⟩ : ByteArray), .slice Ao6 y106.length co6] from (k42_mkF _ _ (⟨(⟨#[97, 109, 109]⟩ : ByteArray), y106⟩ : S42) (Kd.R_reads' (Kd.R_mono (ok' := (fun _ => True)) (HO108.out) (fun k_ hk => trivial))).2.1 (Kd.R_F (Kd.R_mono (ok' := (fun _ => True)) (HO108.out) (fun k_ hk => trivial))))) (Reps.c2 (show Kd.FK k42 _ _ (⟨(⟨#[97, 98, 109, 110]⟩ : ByteArray), y109⟩ : S42) [.string (⟨#[97, 98, 109, 110]⟩ : ByteArray), .slice Ao9 y109.length co9] from (k42_mkF _ _ (⟨(⟨#[97, 98, 109, 110]⟩ : ByteArray), y109⟩ : S42) (Kd.R_reads' (Kd.R_mono (ok' := (fun _ => True)) (HO111.out) (fun k_ hk => trivial))).2.1 (Kd.R_F (Kd.R_mono (ok' := (fun _ => True)) (HO111.out) (fun k_ hk => trivial))))) (Reps.c2 (show Kd.FK k42 _ _ (⟨(⟨#[109, 97]⟩ : ByteArray), y112⟩ : S42) [.string (⟨#[109, 97]⟩ : ByteArray), .slice Ao12 y112.length co12] from (k42_mkF _ _ (⟨(⟨#[109, 97]⟩ : ByteArray), y112⟩ : S42) (Kd.R_reads' (Kd.R_mono (ok' := (fun _ => True)) (HO114.out) (fun k_ hk => trivial))).2.1 (Kd.R_F (Kd.R_mono (ok' := (fun _ => True)) (HO114.out) (fun k_ hk => trivial))))) (Reps.c2 (show Kd.FK k42 _ _ (⟨(⟨#[98, 110, 97]⟩ : ByteArray), y115⟩ : S42) [.string (⟨#[98, 110, 97]⟩ : ByteArray), .slice Ao15 y115.length co15] from (k42_mkF _ _ (⟨(⟨#[98, 110, 97]⟩ : ByteArray), y115⟩ : S42) (Kd.R_reads' (Kd.R_mono (ok' := (fun _ => True)) (HO117.out) (fun k_ hk => trivial))).2.1 (Kd.R_F (Kd.R_mono (ok' := (fun _ => True)) (HO117.out) (fun k_ hk => trivial))))) (Reps.none _ _))))))); intro v119 w16 ho17 hb hg_ hnew_; clear hg_ hnew_; (first | rw [← Ny118.out] at ho17 | (simp only [Int.reduceToNat] at ho17; rw [← Ny118.out] at ho17)); have n0_ := Aside0.mk (Kd.N_lower ho17 (below_size (by repeat (first | (with_reducible first | exact HB.out | apply below_alloc | apply pw_below_drewN | apply below_drew1) | exact HB.out)))); have n1_ := Aside0.mk (below_step (by repeat (first | (with_reducible first | exact HB.out | apply below_alloc | apply pw_below_drewN | apply below_drew1) | exact HB.out)) hb); clear HB; clear HO105; clear HO108; clear HO111; clear HO114; clear HO117; have HO120 := n0_; have HB := n1_; clear n0_ n1_; clear hb ho17; obtain ⟨Ao18, co18, eo18⟩ := Kd.N_slice HO120.out; subst eo18))
  go_loopg [30] k (fun kq v30 w' => ∃ (x30_1 : Int), v30 = .int .i64 x30_1 ∧ Aside0 (abugidalaw19_sanity.l0 kq y118 (y118.length : Int) x30_1 = some r) ∧ Aside0 (kq ≤ k) ∧ Aside0 (Kd.N k42 42 w' w.heap.size (fun _ => True) (.slice Ao18 y118.length co18) y118) ∧ Aside0 (Below w.heap.size w w'))
  case atStart => exact ⟨(0), (by first | rfl | (simp; done) | (simp [*]; done)), H', ⟨Nat.le_refl _⟩, ⟨by (with_reducible repeat (first | apply Kd.N_alloc | apply Kd.N_drewN | apply Kd.N_drew)); exact HO120.out⟩, ⟨by repeat (first | (with_reducible first | exact HB.out | apply below_alloc | apply pw_below_drewN | apply below_drew1) | exact HB.out)⟩⟩
  case round =>
    clear H'
    try clear c1
    try clear c2
    try clear p2
    try clear c10
    obtain ⟨x30_1, rfl, HA, HK1, HO_28, HB⟩ := hrel
    cases gk with
    | zero => exact absurd HA.out (by simp [abugidalaw19_sanity.l0])
    | succ k1 =>
      have H := HA.out
      clear HA
      simp only [abugidalaw19_sanity.l0] at H
      by_cases c19 : x30_1 < (y118.length : Int)
      · rw [if_pos c19] at H
        have c19b0 : decide (x30_1 < (y118.length : Int)) = true := decide_eq_true c19
        clear c19
        by_cases c20 : 0 ≤ x30_1
        · rw [if_pos c20] at H
          have c20b0 : decide (0 ≤ x30_1) = true := decide_eq_true c20
          clear c20
          by_cases c21 : x30_1 < (y118.length : Int)
          · rw [if_pos c21] at H
            have c21b0 : decide (x30_1 < (y118.length : Int)) = true := decide_eq_true c21
            clear c21
            replace H := Option.bind_eq_some_iff.mp H
            obtain ⟨t123, A220, H⟩ := H
            replace H : ((attach_Places.f t123).bind fun t126 => ((abugidaref19_Same.f k1 t126 ((rd_T42 y118 x30_1).f1)).bind fun t129 => (if t129 = true then (abugidalaw19_sanity.l0 k1 y118 (y118.length : Int) (wrap64 (x30_1 + 1))) else (some false)))) = some r := H
            have A22 := Aside0.mk A220
            clear A220
            replace H := Option.bind_eq_some_iff.mp H
            obtain ⟨t126, A230, H⟩ := H
            replace H : ((abugidaref19_Same.f k1 t126 ((rd_T42 y118 x30_1).f1)).bind fun t129 => (if t129 = true then (abugidalaw19_sanity.l0 k1 y118 (y118.length : Int) (wrap64 (x30_1 + 1))) else (some false))) = some r := H
            have A23 := Aside0.mk A230
            clear A230
            replace H := Option.bind_eq_some_iff.mp H
            obtain ⟨t129, A240, H⟩ := H
            replace H : (if t129 = true then (abugidalaw19_sanity.l0 k1 y118 (y118.length : Int) (wrap64 (x30_1 + 1))) else (some false)) = some r := H
            have A24 := Aside0.mk A240
            clear A240
            by_cases c25 : t129 = true
            · subst c25
              have H1 : (abugidalaw19_sanity.l0 k1 y118 (y118.length : Int) (wrap64 (x30_1 + 1))) = some r := by rw [if_pos rfl] at H; exact H
              clear H
              have H := H1
              clear H1
              have H' := Aside0.mk H
              clear H
              have p121 : 0 ≤ (x30_1 : Int) := of_decide_eq_true (by first | (with_reducible assumption) | assumption)
              have q121 : x30_1 < (y118.length : Int) := of_decide_eq_true (by first | (with_reducible assumption) | assumption)
              obtain ⟨ad121, A121_1, c121_1, e121, hx121_0, hx121_1, hl121_1, hi121_1⟩ := at_T42 (Kd.N_reads' HO_28.out).2.2 x30_1 p121 q121
              cases e121
              obtain ⟨ce121, hce121, hMe121, hcc121⟩ := Kd.N_get HO_28.out z42 x30_1 p121 (by first | exact q121 | exact of_decide_eq_true (by first | (with_reducible assumption) | assumption) | (have e_ := (Kd.N_reads' HO_28.out).1; omega))
              obtain ⟨ua121_1, uc121_1, rfl, ul121_1, ge121_1⟩ := k42_openF hMe121
              have hv121_1 := hcc121 1 _ rfl
              rw [add_field _ _ 1 (by omega)] at hv121_1
              replace hv121_1 := Option.some.inj (hv121_1.symm.trans hx121_1)
              injection hv121_1 with hva_ hvn_ hvc_
              rw [hva_] at ge121_1
              rw [hvc_] at ul121_1
              have HL121_1 := Aside0.mk (show Kd.V k37 37 _ w.heap.size _ _ ((rd_T42 y118 x30_1).f1) from Kd.V_mk ul121_1 ge121_1)
              clear hva_ hvn_ hvc_ ge121_1 ul121_1
              clear hcc121 hce121
              have HR121_1 := Aside0.mk hi121_1
              have HC121_1 := Aside0.mk hl121_1
              clear hi121_1 hl121_1
              replace p121 := eq_true p121
              replace q121 := eq_true q121
              try go_wp2_with (first | ((with_reducible refine gate_dst (N := 2) rfl ?_); refine box_event ?hg (N := 2) ?hd (cs := #[.string (⟨#[]⟩ : ByteArray), .slice none 0 0]) (t := 42) ?hr ?_; (case hd => rfl); (case hg => rfl); (case hr => first | (go_simp; done) | (go_simp; rfl)); intro gb122 hg w26 hbox hb; have n0_ := Aside0.mk (Kd.N_below (Kd.N_elderB (by (with_reducible repeat (first | apply Kd.N_alloc | apply Kd.N_drewN | apply Kd.N_drew)); exact HO_28.out) gb122 (Nat.le_of_eq hg.symm)) hb); have n1_ := Aside0.mk (Kd.V_below (Kd.V_elderB (by (with_reducible repeat (first | apply Kd.V_alloc | apply Kd.V_drewN | apply Kd.V_drew)); exact HL121_1.out) gb122 (Nat.le_of_eq hg.symm)) hb); have n2_ := Aside0.mk (Kd.C_below (by repeat (first | (with_reducible exact HR121_1.out) | (with_reducible refine Kd.C_alloc ?_ _) | (with_reducible refine Kd.C_drewN ?_ _) | (with_reducible refine Kd.C_drew ?_) | exact HR121_1.out)) hb); have n3_ := Aside0.mk (below_step (by repeat (first | (with_reducible first | exact HB.out | apply below_alloc | apply pw_below_drewN | apply below_drew1) | exact HB.out)) hb); have n4_ := Aside0.mk (hbox); have n5_ := Aside0.mk ((by rw [hg]; exact (below_size (by repeat (first | (with_reducible first | exact HB.out | apply below_alloc | apply pw_below_drewN | apply below_drew1) | exact HB.out))) : w.heap.size ≤ gb122)); have n6_ := Aside0.mk ((by rw [hg]; exact (below_size (by repeat (first | (with_reducible first | exact HB.out | apply below_alloc | apply pw_below_drewN | apply below_drew1) | exact HB.out))) : w.heap.size ≤ gb122)); clear HO_28; clear HL121_1; clear HR121_1; clear HB; have HO_28 := n0_; have HL121_1 := n1_; have HR121_1 := n2_; have HB := n3_; have BK122 := n4_; have GW122 := n5_; have GE122 := n6_; clear n0_ n1_ n2_ n3_ n4_ n5_ n6_; clear hb hbox hg; have hcz27_0 : w26.cell? ⟨gb122, 0, none⟩ = some (.string (⟨#[]⟩ : ByteArray)) := (blk_cell BK122.out 0).trans rfl; have hcz27_1 : w26.cell? ⟨gb122, 1, none⟩ = some (.slice none 0 0) := (blk_cell BK122.out 1).trans rfl; have hfz27_0 := blk_frozen BK122.out 0; have hfz27_1 := blk_frozen BK122.out 1))
              have n0_ : Aside0 (Kd.N k42 42 ((w26.setCell ⟨gb122, 0, none⟩ (.string ((rd_T42 y118 x30_1).f0))).setCell ⟨gb122, 1, none⟩ (.slice A121_1 ((rd_T42 y118 x30_1).f1).length c121_1)) w.heap.size (fun k_ => k_ ≠ gb122) (.slice (some ad121) y118.length co18) y118) := ⟨by (with_reducible repeat (first | apply Kd.N_alloc | apply Kd.N_drewN | apply Kd.N_drew)); exact Kd.N_mono (Kd.N_far (p := ⟨gb122, 1, none⟩) (Kd.N_far (p := ⟨gb122, 0, none⟩) (Kd.N_mono HO_28.out (fun k_ hk => (⟨hk, hk.2⟩ : _ ∧ k_ ≠ gb122))) (fun _ hk => hk.2) (.string ((rd_T42 y118 x30_1).f0))) (fun _ hk => hk.2) (.slice A121_1 ((rd_T42 y118 x30_1).f1).length c121_1)) (fun _ hk => hk.1.2)⟩
              have n1_ : Aside0 (Kd.V k37 37 ((w26.setCell ⟨gb122, 0, none⟩ (.string ((rd_T42 y118 x30_1).f0))).setCell ⟨gb122, 1, none⟩ (.slice A121_1 ((rd_T42 y118 x30_1).f1).length c121_1)) w.heap.size (fun k_ => some k_ ≠ (.slice (some ad121) y118.length co18 : Value).ownBlock ∧ k_ ≠ gb122) (.slice A121_1 ((rd_T42 y118 x30_1).f1).length c121_1) ((rd_T42 y118 x30_1).f1)) := ⟨by (with_reducible repeat (first | apply Kd.V_alloc | apply Kd.V_drewN | apply Kd.V_drew)); exact Kd.V_mono (Kd.V_far (p := ⟨gb122, 1, none⟩) (Kd.V_far (p := ⟨gb122, 0, none⟩) (Kd.V_mono HL121_1.out (fun k_ hk => (⟨hk, hk.2⟩ : _ ∧ k_ ≠ gb122))) (fun _ hk => hk.2) (.string ((rd_T42 y118 x30_1).f0))) (fun _ hk => hk.2) (.slice A121_1 ((rd_T42 y118 x30_1).f1).length c121_1)) (fun _ hk => ⟨hk.1.1.2, hk.1.2⟩)⟩
              have n2_ : Aside0 (((w26.setCell ⟨gb122, 0, none⟩ (.string ((rd_T42 y118 x30_1).f0))).setCell ⟨gb122, 1, none⟩ (.slice A121_1 ((rd_T42 y118 x30_1).f1).length c121_1)).heap[gb122]? = some (.cells #[.string ((rd_T42 y118 x30_1).f0), .slice A121_1 ((rd_T42 y118 x30_1).f1).length c121_1] 42 (0, 0))) := ⟨by (with_reducible repeat (first | refine blk_drewN ?_ _ | refine blk_drew ?_ | refine blk_alloc ?_ _)); refine blk_put (cs := #[.string ((rd_T42 y118 x30_1).f0), .slice none 0 0]) ?_ 1 _ rfl; (with_reducible repeat (first | refine blk_drewN ?_ _ | refine blk_drew ?_ | refine blk_alloc ?_ _)); refine blk_put (cs := #[.string (⟨#[]⟩ : ByteArray), .slice none 0 0]) ?_ 0 _ rfl; (with_reducible repeat (first | refine blk_drewN ?_ _ | refine blk_drew ?_ | refine blk_alloc ?_ _)); exact BK122.out⟩
              have n3_ : Aside0 (Below w.heap.size w ((w26.setCell ⟨gb122, 0, none⟩ (.string ((rd_T42 y118 x30_1).f0))).setCell ⟨gb122, 1, none⟩ (.slice A121_1 ((rd_T42 y118 x30_1).f1).length c121_1))) := ⟨by repeat (first | (with_reducible first | exact HB.out | apply below_alloc | apply pw_below_drewN | apply below_drew1 | refine below_set ?_ GE122.out) | exact HB.out)⟩
              (try clear HO_28)
              (try clear HL121_1)
              (try clear BK122)
              (try clear HB)
              generalize ((w26.setCell ⟨gb122, 0, none⟩ (.string ((rd_T42 y118 x30_1).f0))).setCell ⟨gb122, 1, none⟩ (.slice A121_1 ((rd_T42 y118 x30_1).f1).length c121_1)) = w28 at n0_ n1_ n2_ n3_ ⊢
              have HO_28 := n0_
              have HL121_1 := n1_
              have BK122 := n2_
              have HB := n3_
              clear n0_ n1_ n2_ n3_
              have n0_ := Aside0.mk (Kd.N_drew HO_28.out)
              have n1_ := Aside0.mk (Kd.V_drew HL121_1.out)
              have n2_ := Aside0.mk (blk_drew BK122.out)
              have n3_ := Aside0.mk (below_drew1 HB.out)
              clear HO_28
              clear HL121_1
              clear BK122
              clear HB
              have HO_28 := n0_
              have HL121_1 := n1_
              have BK122 := n2_
              have HB := n3_
              clear n0_ n1_ n2_ n3_
              refine start_ (n := 8) (S := fun w' => w'.cell? ⟨gb122, 0, none⟩ = some (.string ((rd_T42 y118 x30_1).f0)) ∧ w'.cell? ⟨gb122, 1, none⟩ = some (.slice A121_1 ((rd_T42 y118 x30_1).f1).length c121_1)) (ds := []) #[false, false, false, false, false, false, false, false] (by kernel_rfl) rfl rfl ⟨(blk_cell BK122.out 0).trans rfl, (blk_cell BK122.out 1).trans rfl⟩ (fun hHeld => ?_); refine with_tabW abugidalaw19_sanity.tab4 abugidalaw19_sanity.bits4 (fun HT_ HW_ => ?_)
              generalize w28.drew = w29 at HO_28 HL121_1 BK122 HB hHeld ⊢
              refine pure_ (i := 0) (N := some 34) (v := ?_) (a' := ?_) #[true, false, false, false, false, false, false, false] rfl rfl (any_of HT_.out (by kernel_rfl)) (fun _ _ _ h => h) (Or.inl ⟨by rfl, ?_⟩) ?_ ?_
              rotate_left
              · intro w'
                go_simp
                with_reducible rfl
              rotate_left
              · simp only [Act.put, List.setIfInBounds_toArray, List.set_cons_zero, List.set_cons_succ, i64_w, i32_w]
                rfl
              refine pure_ (i := 4) (N := some 38) (v := ?_) (a' := ?_) #[true, false, false, false, true, false, false, false] rfl rfl (any_of HT_.out (by kernel_rfl)) (fun _ _ _ h => h) (Or.inl ⟨by rfl, ?_⟩) ?_ ?_
              rotate_left
              · intro w'
                go_simp
                with_reducible rfl
              rotate_left
              · simp only [Act.put, List.setIfInBounds_toArray, List.set_cons_zero, List.set_cons_succ, i64_w, i32_w]
                rfl
              refine take_ (i := 1) (N := some 35) (v := ?_) (a' := ?_) #[true, true, false, false, true, false, false, false] rfl rfl (take_ofW HT_.out HW_.out (by kernel_rfl)) (fun _ _ _ h => h) (Or.inl ⟨by rfl, ?_⟩) hHeld ?_ ?_
              rotate_left
              · rintro w' ⟨s0, s1⟩
                go_simp
                with_reducible rfl
              rotate_left
              · simp only [Act.put, List.setIfInBounds_toArray, List.set_cons_zero, List.set_cons_succ, i64_w, i32_w]
                rfl
              refine take_ (i := 5) (N := some 39) (v := ?_) (a' := ?_) #[true, true, false, false, true, true, false, false] rfl rfl (take_ofW HT_.out HW_.out (by kernel_rfl)) (fun _ _ _ h => h) (Or.inl ⟨by rfl, ?_⟩) hHeld ?_ ?_
              rotate_left
              · rintro w' ⟨s0, s1⟩
                go_simp
                with_reducible rfl
              rotate_left
              · simp only [Act.put, List.setIfInBounds_toArray, List.set_cons_zero, List.set_cons_succ, i64_w, i32_w]
                rfl
              refine one_ (i := 2) (N := some 36) #[true, true, true, false, true, true, false, false] rfl rfl (one_of HT_.out (by kernel_rfl)) (by decide) (fun K hK => ?_)
              refine goes_ Try.func16 (by kernel_rfl) rfl #[.string ((rd_T42 y118 x30_1).f0)] (by rfl) rfl rfl (by (try simp only [List.map_toArray, List.map_cons, List.map_nil]); first | done | rfl | (simp only [List.length_drop, List.length_take]; rfl)) ?_
              with_reducible refine (abugidalaw19_glyphs.calls ((rd_T42 y118 x30_1).f0) t123 _ A22.out).mono ?_
              rintro e w30 ⟨v124, rfl, ho0, hb⟩
              refine ⟨_, rfl, ?_⟩
              have n0_ := Aside0.mk (Kd.N_elder' (by (with_reducible repeat (first | apply Kd.N_alloc | apply Kd.N_drewN | apply Kd.N_drew)); exact HO_28.out) (Kd.R_base ho0) hb)
              have n1_ := Aside0.mk (Kd.V_elder' (by (with_reducible repeat (first | apply Kd.V_alloc | apply Kd.V_drewN | apply Kd.V_drew)); exact HL121_1.out) (Kd.R_base ho0) hb)
              have n2_ := Aside0.mk (Kd.N_lower (Kd.N_mono (ok' := fun k_ => some k_ ≠ (.slice (some ad121) y118.length co18 : Value).ownBlock ∧ k_ ≠ gb122) (Kd.R_N (Kd.R_bound ho0)) (fun k_ hk_ => ⟨(Kd.fresh' (Kd.N_lt (by (with_reducible repeat (first | apply Kd.N_alloc | apply Kd.N_drewN | apply Kd.N_drew)); exact HO_28.out)) k_ hk_.2.1), (Kd.freshB (g := gb122) (o := .cells #[.string ((rd_T42 y118 x30_1).f0), .slice A121_1 ((rd_T42 y118 x30_1).f1).length c121_1] 42 (0, 0)) (by (with_reducible repeat (first | refine blk_drewN ?_ _ | refine blk_drew ?_ | refine blk_alloc ?_ _)); exact BK122.out) k_ hk_.2.1)⟩)) (below_size (by repeat (first | (with_reducible first | exact HB.out | apply below_alloc | apply pw_below_drewN | apply below_drew1 | refine below_set ?_ GE122.out) | exact HB.out))))
              have n3_ := Aside0.mk (blk_below (g := gb122) (o := .cells #[.string ((rd_T42 y118 x30_1).f0), .slice A121_1 ((rd_T42 y118 x30_1).f1).length c121_1] 42 (0, 0)) (by (with_reducible repeat (first | refine blk_drewN ?_ _ | refine blk_drew ?_ | refine blk_alloc ?_ _)); exact BK122.out) hb)
              have n4_ := Aside0.mk (below_step (by repeat (first | (with_reducible first | exact HB.out | apply below_alloc | apply pw_below_drewN | apply below_drew1 | refine below_set ?_ GE122.out) | exact HB.out)) hb)
              clear HO_28
              clear HL121_1
              clear BK122
              clear HB
              have HO_28 := n0_
              have HL121_1 := n1_
              have HO125 := n2_
              have BK122 := n3_
              have HB := n4_
              clear n0_ n1_ n2_ n3_ n4_
              (try clear hb)
              (try clear hb2)
              (try clear hk)
              (try clear hi)
              (try clear ho0)
              obtain ⟨Ao31, co31, eo31⟩ := Kd.N_slice HO125.out
              (first | subst eo31 | (injection eo31 with f1_ f2_ f3_; have f4_ := f1_.symm; have f5_ := f3_.symm; clear f1_ f2_ f3_; subst f4_; subst f5_))
              refine hK.out _ _ ⟨(blk_cell BK122.out 0).trans rfl, (blk_cell BK122.out 1).trans rfl⟩ (fun hHeld => ?_)
              clear hK K
              refine norm_ (a' := ?_) ?_ ?_
              rotate_left
              · show Act.put _ (some 36) _ = _
                simp only [Act.put, List.setIfInBounds_toArray, List.set_cons_zero, List.set_cons_succ, i64_w, i32_w]
                rfl
              refine one_ (i := 3) (N := some 37) #[true, true, true, true, true, true, false, false] rfl rfl (one_of HT_.out (by kernel_rfl)) (by decide) (fun K hK => ?_)
              refine goes_ Try.func13 (by kernel_rfl) rfl #[.slice Ao31 t123.length co31] (by rfl) rfl rfl (by (try simp only [List.map_toArray, List.map_cons, List.map_nil]); first | done | rfl | (simp only [List.length_drop, List.length_take]; rfl)) ?_
              with_reducible refine (attach_Places.calls _ _ t123 t126 _ ?side1 ?side2 A23.out).mono ?_
              (case side1 => repeat (first | exact (Kd.N_reads' HO125.out).2.2 | (with_reducible refine Kd.C_alloc ?_ _) | (with_reducible refine Kd.C_drewN ?_ _) | (with_reducible refine Kd.C_drew ?_)))
              (case side2 => exact (Kd.N_reads' HO125.out).2.1)
              rintro e w32 ⟨v127, rfl, ho0, hb⟩
              refine ⟨_, rfl, ?_⟩
              have n0_ := Aside0.mk (Kd.N_elder' (by (with_reducible repeat (first | apply Kd.N_alloc | apply Kd.N_drewN | apply Kd.N_drew)); exact HO_28.out) (Kd.R_base ho0) hb)
              have n1_ := Aside0.mk (Kd.V_elder' (by (with_reducible repeat (first | apply Kd.V_alloc | apply Kd.V_drewN | apply Kd.V_drew)); exact HL121_1.out) (Kd.R_base ho0) hb)
              have n2_ := Aside0.mk (Kd.N_elder' (by (with_reducible repeat (first | apply Kd.N_alloc | apply Kd.N_drewN | apply Kd.N_drew)); exact HO125.out) (Kd.R_base ho0) hb)
              have n3_ := Aside0.mk (Kd.R_lower ho0 (below_size (by repeat (first | (with_reducible first | exact HB.out | apply below_alloc | apply pw_below_drewN | apply below_drew1 | refine below_set ?_ GE122.out) | exact HB.out))))
              have n4_ := Aside0.mk (blk_below (g := gb122) (o := .cells #[.string ((rd_T42 y118 x30_1).f0), .slice A121_1 ((rd_T42 y118 x30_1).f1).length c121_1] 42 (0, 0)) (by (with_reducible repeat (first | refine blk_drewN ?_ _ | refine blk_drew ?_ | refine blk_alloc ?_ _)); exact BK122.out) hb)
              have n5_ := Aside0.mk (below_step (by repeat (first | (with_reducible first | exact HB.out | apply below_alloc | apply pw_below_drewN | apply below_drew1 | refine below_set ?_ GE122.out) | exact HB.out)) hb)
              clear HO_28
              clear HL121_1
              clear HO125
              clear BK122
              clear HB
              have HO_28 := n0_
              have HL121_1 := n1_
              have HO125 := n2_
              have HO128 := n3_
              have BK122 := n4_
              have HB := n5_
              clear n0_ n1_ n2_ n3_ n4_ n5_
              (try clear hb)
              (try clear hb2)
              (try clear hk)
              (try clear hi)
              (try clear ho0)
              obtain ⟨Ao33, co33, eo33⟩ := Kd.R_slice HO128.out
              (first | subst eo33 | (injection eo33 with f1_ f2_ f3_; have f4_ := f1_.symm; have f5_ := f3_.symm; clear f1_ f2_ f3_; subst f4_; subst f5_))
              refine hK.out _ _ ⟨(blk_cell BK122.out 0).trans rfl, (blk_cell BK122.out 1).trans rfl⟩ (fun hHeld => ?_)
              clear hK K
              refine norm_ (a' := ?_) ?_ ?_
              rotate_left
              · show Act.put _ (some 37) _ = _
                simp only [Act.put, List.setIfInBounds_toArray, List.set_cons_zero, List.set_cons_succ, i64_w, i32_w]
                rfl
              refine one_ (i := 6) (N := some 40) #[true, true, true, true, true, true, true, false] rfl rfl (one_of HT_.out (by kernel_rfl)) (by decide) (fun K hK => ?_)
              refine goes_ Try.func12 (by kernel_rfl) rfl #[.slice Ao33 t126.length co33, .slice A121_1 ((rd_T42 y118 x30_1).f1).length c121_1] (by rfl) rfl rfl (by (try simp only [List.map_toArray, List.map_cons, List.map_nil]); first | done | rfl | (simp only [List.length_drop, List.length_take]; rfl)) ?_
              with_reducible refine (abugidaref19_Same.calls k1 _ _ t126 _ _ ((rd_T42 y118 x30_1).f1) true _ ?side1 ?side2 ?side3 ?side4 A24.out).mono ?_
              (case side1 => repeat (first | exact (Kd.R_reads' HO128.out).2.2 | (with_reducible refine Kd.C_alloc ?_ _) | (with_reducible refine Kd.C_drewN ?_ _) | (with_reducible refine Kd.C_drew ?_)))
              (case side2 => exact (Kd.R_reads' HO128.out).2.1)
              (case side3 => repeat (first | exact ((Kd.V_reads' (by (with_reducible repeat (first | apply Kd.V_alloc | apply Kd.V_drewN | apply Kd.V_drew)); exact HL121_1.out)).2.2) | (with_reducible refine Kd.C_alloc ?_ _) | (with_reducible refine Kd.C_drewN ?_ _) | (with_reducible refine Kd.C_drew ?_)))
              (case side4 => exact HC121_1.out)
              rintro e w' ⟨rfl, ⟨nd, rfl⟩⟩
              refine ⟨_, rfl, ?_⟩
              refine hK.out _ _ ⟨(blk_cell BK122.out 0).trans rfl, (blk_cell BK122.out 1).trans rfl⟩ (fun hHeld => ?_)
              clear hK K
              refine norm_ (a' := ?_) ?_ ?_
              rotate_left
              · show Act.put _ (some 40) _ = _
                simp only [Act.put, List.setIfInBounds_toArray, List.set_cons_zero, List.set_cons_succ, i64_w, i32_w]
                rfl
              refine pure_ (i := 7) (N := some 41) (v := ?_) (a' := ?_) #[true, true, true, true, true, true, true, true] rfl rfl (any_of HT_.out (by kernel_rfl)) (fun _ _ _ h => h) (Or.inl ⟨by rfl, ?_⟩) ?_ ?_
              rotate_left
              · intro w'
                go_simp
                with_reducible rfl
              rotate_left
              · simp only [Act.put, List.setIfInBounds_toArray, List.set_cons_zero, List.set_cons_succ, i64_w, i32_w]
                rfl
              refine done_ (done_of HT_.out (by kernel_rfl)) ?_
              try go_wp2
              go_roundg k1
              case measure => have := HK1.out; omega
              case rel => exact ⟨(wrap64 (x30_1 + 1)), (by first | rfl | (simp; done) | (simp [*]; done)), H', ⟨by have := HK1.out; omega⟩, ⟨by (with_reducible repeat (first | apply Kd.N_alloc | apply Kd.N_drewN | apply Kd.N_drew)); exact Kd.N_mono HO_28.out (fun _ hk => trivial)⟩, ⟨by repeat (first | (with_reducible first | exact HB.out | apply below_alloc | apply pw_below_drewN | apply below_drew1 | refine below_set ?_ GE122.out) | exact HB.out)⟩⟩
            · replace c25 := Bool.eq_false_iff.mpr c25
              subst c25
              have H1 : (some false) = some r := by rw [if_neg (show ¬ (false = true) by decide)] at H; exact H
              clear H
              have H := H1
              clear H1
              obtain rfl := Option.some.inj H
              have p121 : 0 ≤ (x30_1 : Int) := of_decide_eq_true (by first | (with_reducible assumption) | assumption)
              have q121 : x30_1 < (y118.length : Int) := of_decide_eq_true (by first | (with_reducible assumption) | assumption)
              obtain ⟨ad121, A121_1, c121_1, e121, hx121_0, hx121_1, hl121_1, hi121_1⟩ := at_T42 (Kd.N_reads' HO_28.out).2.2 x30_1 p121 q121
              cases e121
              obtain ⟨ce121, hce121, hMe121, hcc121⟩ := Kd.N_get HO_28.out z42 x30_1 p121 (by first | exact q121 | exact of_decide_eq_true (by first | (with_reducible assumption) | assumption) | (have e_ := (Kd.N_reads' HO_28.out).1; omega))
              obtain ⟨ua121_1, uc121_1, rfl, ul121_1, ge121_1⟩ := k42_openF hMe121
              have hv121_1 := hcc121 1 _ rfl
              rw [add_field _ _ 1 (by omega)] at hv121_1
              replace hv121_1 := Option.some.inj (hv121_1.symm.trans hx121_1)
              injection hv121_1 with hva_ hvn_ hvc_
              rw [hva_] at ge121_1
              rw [hvc_] at ul121_1
              have HL121_1 := Aside0.mk (show Kd.V k37 37 _ w.heap.size _ _ ((rd_T42 y118 x30_1).f1) from Kd.V_mk ul121_1 ge121_1)
              clear hva_ hvn_ hvc_ ge121_1 ul121_1
              clear hcc121 hce121
              have HR121_1 := Aside0.mk hi121_1
              have HC121_1 := Aside0.mk hl121_1
              clear hi121_1 hl121_1
              replace p121 := eq_true p121
              replace q121 := eq_true q121
              try go_wp2_with (first | ((with_reducible refine gate_dst (N := 2) rfl ?_); refine box_event ?hg (N := 2) ?hd (cs := #[.string (⟨#[]⟩ : ByteArray), .slice none 0 0]) (t := 42) ?hr ?_; (case hd => rfl); (case hg => rfl); (case hr => first | (go_simp; done) | (go_simp; rfl)); intro gb122 hg w34 hbox hb; have n0_ := Aside0.mk (Kd.N_below (Kd.N_elderB (by (with_reducible repeat (first | apply Kd.N_alloc | apply Kd.N_drewN | apply Kd.N_drew)); exact HO_28.out) gb122 (Nat.le_of_eq hg.symm)) hb); have n1_ := Aside0.mk (Kd.V_below (Kd.V_elderB (by (with_reducible repeat (first | apply Kd.V_alloc | apply Kd.V_drewN | apply Kd.V_drew)); exact HL121_1.out) gb122 (Nat.le_of_eq hg.symm)) hb); have n2_ := Aside0.mk (Kd.C_below (by repeat (first | (with_reducible exact HR121_1.out) | (with_reducible refine Kd.C_alloc ?_ _) | (with_reducible refine Kd.C_drewN ?_ _) | (with_reducible refine Kd.C_drew ?_) | exact HR121_1.out)) hb); have n3_ := Aside0.mk (below_step (by repeat (first | (with_reducible first | exact HB.out | apply below_alloc | apply pw_below_drewN | apply below_drew1) | exact HB.out)) hb); have n4_ := Aside0.mk (hbox); have n5_ := Aside0.mk ((by rw [hg]; exact (below_size (by repeat (first | (with_reducible first | exact HB.out | apply below_alloc | apply pw_below_drewN | apply below_drew1) | exact HB.out))) : w.heap.size ≤ gb122)); have n6_ := Aside0.mk ((by rw [hg]; exact (below_size (by repeat (first | (with_reducible first | exact HB.out | apply below_alloc | apply pw_below_drewN | apply below_drew1) | exact HB.out))) : w.heap.size ≤ gb122)); clear HO_28; clear HL121_1; clear HR121_1; clear HB; have HO_28 := n0_; have HL121_1 := n1_; have HR121_1 := n2_; have HB := n3_; have BK122 := n4_; have GW122 := n5_; have GE122 := n6_; clear n0_ n1_ n2_ n3_ n4_ n5_ n6_; clear hb hbox hg; have hcz35_0 : w34.cell? ⟨gb122, 0, none⟩ = some (.string (⟨#[]⟩ : ByteArray)) := (blk_cell BK122.out 0).trans rfl; have hcz35_1 : w34.cell? ⟨gb122, 1, none⟩ = some (.slice none 0 0) := (blk_cell BK122.out 1).trans rfl; have hfz35_0 := blk_frozen BK122.out 0; have hfz35_1 := blk_frozen BK122.out 1))
              have n0_ : Aside0 (Kd.N k42 42 ((w34.setCell ⟨gb122, 0, none⟩ (.string ((rd_T42 y118 x30_1).f0))).setCell ⟨gb122, 1, none⟩ (.slice A121_1 ((rd_T42 y118 x30_1).f1).length c121_1)) w.heap.size (fun k_ => k_ ≠ gb122) (.slice (some ad121) y118.length co18) y118) := ⟨by (with_reducible repeat (first | apply Kd.N_alloc | apply Kd.N_drewN | apply Kd.N_drew)); exact Kd.N_mono (Kd.N_far (p := ⟨gb122, 1, none⟩) (Kd.N_far (p := ⟨gb122, 0, none⟩) (Kd.N_mono HO_28.out (fun k_ hk => (⟨hk, hk.2⟩ : _ ∧ k_ ≠ gb122))) (fun _ hk => hk.2) (.string ((rd_T42 y118 x30_1).f0))) (fun _ hk => hk.2) (.slice A121_1 ((rd_T42 y118 x30_1).f1).length c121_1)) (fun _ hk => hk.1.2)⟩
              have n1_ : Aside0 (Kd.V k37 37 ((w34.setCell ⟨gb122, 0, none⟩ (.string ((rd_T42 y118 x30_1).f0))).setCell ⟨gb122, 1, none⟩ (.slice A121_1 ((rd_T42 y118 x30_1).f1).length c121_1)) w.heap.size (fun k_ => some k_ ≠ (.slice (some ad121) y118.length co18 : Value).ownBlock ∧ k_ ≠ gb122) (.slice A121_1 ((rd_T42 y118 x30_1).f1).length c121_1) ((rd_T42 y118 x30_1).f1)) := ⟨by (with_reducible repeat (first | apply Kd.V_alloc | apply Kd.V_drewN | apply Kd.V_drew)); exact Kd.V_mono (Kd.V_far (p := ⟨gb122, 1, none⟩) (Kd.V_far (p := ⟨gb122, 0, none⟩) (Kd.V_mono HL121_1.out (fun k_ hk => (⟨hk, hk.2⟩ : _ ∧ k_ ≠ gb122))) (fun _ hk => hk.2) (.string ((rd_T42 y118 x30_1).f0))) (fun _ hk => hk.2) (.slice A121_1 ((rd_T42 y118 x30_1).f1).length c121_1)) (fun _ hk => ⟨hk.1.1.2, hk.1.2⟩)⟩
              have n2_ : Aside0 (((w34.setCell ⟨gb122, 0, none⟩ (.string ((rd_T42 y118 x30_1).f0))).setCell ⟨gb122, 1, none⟩ (.slice A121_1 ((rd_T42 y118 x30_1).f1).length c121_1)).heap[gb122]? = some (.cells #[.string ((rd_T42 y118 x30_1).f0), .slice A121_1 ((rd_T42 y118 x30_1).f1).length c121_1] 42 (0, 0))) := ⟨by (with_reducible repeat (first | refine blk_drewN ?_ _ | refine blk_drew ?_ | refine blk_alloc ?_ _)); refine blk_put (cs := #[.string ((rd_T42 y118 x30_1).f0), .slice none 0 0]) ?_ 1 _ rfl; (with_reducible repeat (first | refine blk_drewN ?_ _ | refine blk_drew ?_ | refine blk_alloc ?_ _)); refine blk_put (cs := #[.string (⟨#[]⟩ : ByteArray), .slice none 0 0]) ?_ 0 _ rfl; (with_reducible repeat (first | refine blk_drewN ?_ _ | refine blk_drew ?_ | refine blk_alloc ?_ _)); exact BK122.out⟩
              have n3_ : Aside0 (Below w.heap.size w ((w34.setCell ⟨gb122, 0, none⟩ (.string ((rd_T42 y118 x30_1).f0))).setCell ⟨gb122, 1, none⟩ (.slice A121_1 ((rd_T42 y118 x30_1).f1).length c121_1))) := ⟨by repeat (first | (with_reducible first | exact HB.out | apply below_alloc | apply pw_below_drewN | apply below_drew1 | refine below_set ?_ GE122.out) | exact HB.out)⟩
              (try clear HO_28)
              (try clear HL121_1)
              (try clear BK122)
              (try clear HB)
              generalize ((w34.setCell ⟨gb122, 0, none⟩ (.string ((rd_T42 y118 x30_1).f0))).setCell ⟨gb122, 1, none⟩ (.slice A121_1 ((rd_T42 y118 x30_1).f1).length c121_1)) = w36 at n0_ n1_ n2_ n3_ ⊢
              have HO_28 := n0_
              have HL121_1 := n1_
              have BK122 := n2_
              have HB := n3_
              clear n0_ n1_ n2_ n3_
              have n0_ := Aside0.mk (Kd.N_drew HO_28.out)
              have n1_ := Aside0.mk (Kd.V_drew HL121_1.out)
              have n2_ := Aside0.mk (blk_drew BK122.out)
              have n3_ := Aside0.mk (below_drew1 HB.out)
              clear HO_28
              clear HL121_1
              clear BK122
              clear HB
              have HO_28 := n0_
              have HL121_1 := n1_
              have BK122 := n2_
              have HB := n3_
              clear n0_ n1_ n2_ n3_
              refine start_ (n := 8) (S := fun w' => w'.cell? ⟨gb122, 0, none⟩ = some (.string ((rd_T42 y118 x30_1).f0)) ∧ w'.cell? ⟨gb122, 1, none⟩ = some (.slice A121_1 ((rd_T42 y118 x30_1).f1).length c121_1)) (ds := []) #[false, false, false, false, false, false, false, false] (by kernel_rfl) rfl rfl ⟨(blk_cell BK122.out 0).trans rfl, (blk_cell BK122.out 1).trans rfl⟩ (fun hHeld => ?_); refine with_tabW abugidalaw19_sanity.tab4 abugidalaw19_sanity.bits4 (fun HT_ HW_ => ?_)
              generalize w36.drew = w37 at HO_28 HL121_1 BK122 HB hHeld ⊢
              refine pure_ (i := 0) (N := some 34) (v := ?_) (a' := ?_) #[true, false, false, false, false, false, false, false] rfl rfl (any_of HT_.out (by kernel_rfl)) (fun _ _ _ h => h) (Or.inl ⟨by rfl, ?_⟩) ?_ ?_
              rotate_left
              · intro w'
                go_simp
                with_reducible rfl
              rotate_left
              · simp only [Act.put, List.setIfInBounds_toArray, List.set_cons_zero, List.set_cons_succ, i64_w, i32_w]
                rfl
              refine pure_ (i := 4) (N := some 38) (v := ?_) (a' := ?_) #[true, false, false, false, true, false, false, false] rfl rfl (any_of HT_.out (by kernel_rfl)) (fun _ _ _ h => h) (Or.inl ⟨by rfl, ?_⟩) ?_ ?_
              rotate_left
              · intro w'
                go_simp
                with_reducible rfl
              rotate_left
              · simp only [Act.put, List.setIfInBounds_toArray, List.set_cons_zero, List.set_cons_succ, i64_w, i32_w]
                rfl
              refine take_ (i := 1) (N := some 35) (v := ?_) (a' := ?_) #[true, true, false, false, true, false, false, false] rfl rfl (take_ofW HT_.out HW_.out (by kernel_rfl)) (fun _ _ _ h => h) (Or.inl ⟨by rfl, ?_⟩) hHeld ?_ ?_
              rotate_left
              · rintro w' ⟨s0, s1⟩
                go_simp
                with_reducible rfl
              rotate_left
              · simp only [Act.put, List.setIfInBounds_toArray, List.set_cons_zero, List.set_cons_succ, i64_w, i32_w]
                rfl
              refine take_ (i := 5) (N := some 39) (v := ?_) (a' := ?_) #[true, true, false, false, true, true, false, false] rfl rfl (take_ofW HT_.out HW_.out (by kernel_rfl)) (fun _ _ _ h => h) (Or.inl ⟨by rfl, ?_⟩) hHeld ?_ ?_
              rotate_left
              · rintro w' ⟨s0, s1⟩
                go_simp
                with_reducible rfl
              rotate_left
              · simp only [Act.put, List.setIfInBounds_toArray, List.set_cons_zero, List.set_cons_succ, i64_w, i32_w]
                rfl
              refine one_ (i := 2) (N := some 36) #[true, true, true, false, true, true, false, false] rfl rfl (one_of HT_.out (by kernel_rfl)) (by decide) (fun K hK => ?_)
              refine goes_ Try.func16 (by kernel_rfl) rfl #[.string ((rd_T42 y118 x30_1).f0)] (by rfl) rfl rfl (by (try simp only [List.map_toArray, List.map_cons, List.map_nil]); first | done | rfl | (simp only [List.length_drop, List.length_take]; rfl)) ?_
              with_reducible refine (abugidalaw19_glyphs.calls ((rd_T42 y118 x30_1).f0) t123 _ A22.out).mono ?_
              rintro e w38 ⟨v124, rfl, ho0, hb⟩
              refine ⟨_, rfl, ?_⟩
              have n0_ := Aside0.mk (Kd.N_elder' (by (with_reducible repeat (first | apply Kd.N_alloc | apply Kd.N_drewN | apply Kd.N_drew)); exact HO_28.out) (Kd.R_base ho0) hb)
              have n1_ := Aside0.mk (Kd.V_elder' (by (with_reducible repeat (first | apply Kd.V_alloc | apply Kd.V_drewN | apply Kd.V_drew)); exact HL121_1.out) (Kd.R_base ho0) hb)
              have n2_ := Aside0.mk (Kd.N_lower (Kd.N_mono (ok' := fun k_ => some k_ ≠ (.slice (some ad121) y118.length co18 : Value).ownBlock ∧ k_ ≠ gb122) (Kd.R_N (Kd.R_bound ho0)) (fun k_ hk_ => ⟨(Kd.fresh' (Kd.N_lt (by (with_reducible repeat (first | apply Kd.N_alloc | apply Kd.N_drewN | apply Kd.N_drew)); exact HO_28.out)) k_ hk_.2.1), (Kd.freshB (g := gb122) (o := .cells #[.string ((rd_T42 y118 x30_1).f0), .slice A121_1 ((rd_T42 y118 x30_1).f1).length c121_1] 42 (0, 0)) (by (with_reducible repeat (first | refine blk_drewN ?_ _ | refine blk_drew ?_ | refine blk_alloc ?_ _)); exact BK122.out) k_ hk_.2.1)⟩)) (below_size (by repeat (first | (with_reducible first | exact HB.out | apply below_alloc | apply pw_below_drewN | apply below_drew1 | refine below_set ?_ GE122.out) | exact HB.out))))
              have n3_ := Aside0.mk (blk_below (g := gb122) (o := .cells #[.string ((rd_T42 y118 x30_1).f0), .slice A121_1 ((rd_T42 y118 x30_1).f1).length c121_1] 42 (0, 0)) (by (with_reducible repeat (first | refine blk_drewN ?_ _ | refine blk_drew ?_ | refine blk_alloc ?_ _)); exact BK122.out) hb)
              have n4_ := Aside0.mk (below_step (by repeat (first | (with_reducible first | exact HB.out | apply below_alloc | apply pw_below_drewN | apply below_drew1 | refine below_set ?_ GE122.out) | exact HB.out)) hb)
              clear HO_28
              clear HL121_1
              clear BK122
              clear HB
              have HO_28 := n0_
              have HL121_1 := n1_
              have HO125 := n2_
              have BK122 := n3_
              have HB := n4_
              clear n0_ n1_ n2_ n3_ n4_
              (try clear hb)
              (try clear hb2)
              (try clear hk)
              (try clear hi)
              (try clear ho0)
              obtain ⟨Ao39, co39, eo39⟩ := Kd.N_slice HO125.out
              (first | subst eo39 | (injection eo39 with f1_ f2_ f3_; have f4_ := f1_.symm; have f5_ := f3_.symm; clear f1_ f2_ f3_; subst f4_; subst f5_))
              refine hK.out _ _ ⟨(blk_cell BK122.out 0).trans rfl, (blk_cell BK122.out 1).trans rfl⟩ (fun hHeld => ?_)
              clear hK K
              refine norm_ (a' := ?_) ?_ ?_
              rotate_left
              · show Act.put _ (some 36) _ = _
                simp only [Act.put, List.setIfInBounds_toArray, List.set_cons_zero, List.set_cons_succ, i64_w, i32_w]
                rfl
              refine one_ (i := 3) (N := some 37) #[true, true, true, true, true, true, false, false] rfl rfl (one_of HT_.out (by kernel_rfl)) (by decide) (fun K hK => ?_)
              refine goes_ Try.func13 (by kernel_rfl) rfl #[.slice Ao39 t123.length co39] (by rfl) rfl rfl (by (try simp only [List.map_toArray, List.map_cons, List.map_nil]); first | done | rfl | (simp only [List.length_drop, List.length_take]; rfl)) ?_
              with_reducible refine (attach_Places.calls _ _ t123 t126 _ ?side1 ?side2 A23.out).mono ?_
              (case side1 => repeat (first | exact (Kd.N_reads' HO125.out).2.2 | (with_reducible refine Kd.C_alloc ?_ _) | (with_reducible refine Kd.C_drewN ?_ _) | (with_reducible refine Kd.C_drew ?_)))
              (case side2 => exact (Kd.N_reads' HO125.out).2.1)
              rintro e w40 ⟨v127, rfl, ho0, hb⟩
              refine ⟨_, rfl, ?_⟩
              have n0_ := Aside0.mk (Kd.N_elder' (by (with_reducible repeat (first | apply Kd.N_alloc | apply Kd.N_drewN | apply Kd.N_drew)); exact HO_28.out) (Kd.R_base ho0) hb)
              have n1_ := Aside0.mk (Kd.V_elder' (by (with_reducible repeat (first | apply Kd.V_alloc | apply Kd.V_drewN | apply Kd.V_drew)); exact HL121_1.out) (Kd.R_base ho0) hb)
              have n2_ := Aside0.mk (Kd.N_elder' (by (with_reducible repeat (first | apply Kd.N_alloc | apply Kd.N_drewN | apply Kd.N_drew)); exact HO125.out) (Kd.R_base ho0) hb)
              have n3_ := Aside0.mk (Kd.R_lower ho0 (below_size (by repeat (first | (with_reducible first | exact HB.out | apply below_alloc | apply pw_below_drewN | apply below_drew1 | refine below_set ?_ GE122.out) | exact HB.out))))
              have n4_ := Aside0.mk (blk_below (g := gb122) (o := .cells #[.string ((rd_T42 y118 x30_1).f0), .slice A121_1 ((rd_T42 y118 x30_1).f1).length c121_1] 42 (0, 0)) (by (with_reducible repeat (first | refine blk_drewN ?_ _ | refine blk_drew ?_ | refine blk_alloc ?_ _)); exact BK122.out) hb)
              have n5_ := Aside0.mk (below_step (by repeat (first | (with_reducible first | exact HB.out | apply below_alloc | apply pw_below_drewN | apply below_drew1 | refine below_set ?_ GE122.out) | exact HB.out)) hb)
              clear HO_28
              clear HL121_1
              clear HO125
              clear BK122
              clear HB
              have HO_28 := n0_
              have HL121_1 := n1_
              have HO125 := n2_
              have HO128 := n3_
              have BK122 := n4_
              have HB := n5_
              clear n0_ n1_ n2_ n3_ n4_ n5_
              (try clear hb)
              (try clear hb2)
              (try clear hk)
              (try clear hi)
              (try clear ho0)
              obtain ⟨Ao41, co41, eo41⟩ := Kd.R_slice HO128.out
              (first | subst eo41 | (injection eo41 with f1_ f2_ f3_; have f4_ := f1_.symm; have f5_ := f3_.symm; clear f1_ f2_ f3_; subst f4_; subst f5_))
              refine hK.out _ _ ⟨(blk_cell BK122.out 0).trans rfl, (blk_cell BK122.out 1).trans rfl⟩ (fun hHeld => ?_)
              clear hK K
              refine norm_ (a' := ?_) ?_ ?_
              rotate_left
              · show Act.put _ (some 37) _ = _
                simp only [Act.put, List.setIfInBounds_toArray, List.set_cons_zero, List.set_cons_succ, i64_w, i32_w]
                rfl
              refine one_ (i := 6) (N := some 40) #[true, true, true, true, true, true, true, false] rfl rfl (one_of HT_.out (by kernel_rfl)) (by decide) (fun K hK => ?_)
              refine goes_ Try.func12 (by kernel_rfl) rfl #[.slice Ao41 t126.length co41, .slice A121_1 ((rd_T42 y118 x30_1).f1).length c121_1] (by rfl) rfl rfl (by (try simp only [List.map_toArray, List.map_cons, List.map_nil]); first | done | rfl | (simp only [List.length_drop, List.length_take]; rfl)) ?_
              with_reducible refine (abugidaref19_Same.calls k1 _ _ t126 _ _ ((rd_T42 y118 x30_1).f1) false _ ?side1 ?side2 ?side3 ?side4 A24.out).mono ?_
              (case side1 => repeat (first | exact (Kd.R_reads' HO128.out).2.2 | (with_reducible refine Kd.C_alloc ?_ _) | (with_reducible refine Kd.C_drewN ?_ _) | (with_reducible refine Kd.C_drew ?_)))
              (case side2 => exact (Kd.R_reads' HO128.out).2.1)
              (case side3 => repeat (first | exact ((Kd.V_reads' (by (with_reducible repeat (first | apply Kd.V_alloc | apply Kd.V_drewN | apply Kd.V_drew)); exact HL121_1.out)).2.2) | (with_reducible refine Kd.C_alloc ?_ _) | (with_reducible refine Kd.C_drewN ?_ _) | (with_reducible refine Kd.C_drew ?_)))
              (case side4 => exact HC121_1.out)
              rintro e w' ⟨rfl, ⟨nd, rfl⟩⟩
              refine ⟨_, rfl, ?_⟩
              refine hK.out _ _ ⟨(blk_cell BK122.out 0).trans rfl, (blk_cell BK122.out 1).trans rfl⟩ (fun hHeld => ?_)
              clear hK K
              refine norm_ (a' := ?_) ?_ ?_
              rotate_left
              · show Act.put _ (some 40) _ = _
                simp only [Act.put, List.setIfInBounds_toArray, List.set_cons_zero, List.set_cons_succ, i64_w, i32_w]
                rfl
              refine pure_ (i := 7) (N := some 41) (v := ?_) (a' := ?_) #[true, true, true, true, true, true, true, true] rfl rfl (any_of HT_.out (by kernel_rfl)) (fun _ _ _ h => h) (Or.inl ⟨by rfl, ?_⟩) ?_ ?_
              rotate_left
              · intro w'
                go_simp
                with_reducible rfl
              rotate_left
              · simp only [Act.put, List.setIfInBounds_toArray, List.set_cons_zero, List.set_cons_succ, i64_w, i32_w]
                rfl
              refine done_ (done_of HT_.out (by kernel_rfl)) ?_
              try go_wp2
              go_ret
              exact ⟨by first | rfl | (simp [errW_none, errW_some] <;> rfl) | (simp [*, errW_none, errW_some] <;> rfl), by repeat (first | (with_reducible first | exact HB.out | apply below_alloc | apply pw_below_drewN | apply below_drew1 | refine below_set ?_ GE122.out) | exact HB.out)⟩
          · rw [if_neg c21] at H
            exact absurd H (by simp)
        · rw [if_neg c20] at H
          exact absurd H (by simp)
      · rw [if_neg c19] at H
        have c19b0 : decide (x30_1 < (y118.length : Int)) = false := decide_eq_false c19
        clear c19
        obtain rfl := Option.some.inj H
        go_wp2
        go_ret
        exact ⟨by first | rfl | (simp [errW_none, errW_some] <;> rfl) | (simp [*, errW_none, errW_some] <;> rfl), by repeat (first | (with_reducible first | exact HB.out | apply below_alloc | apply pw_below_drewN | apply below_drew1) | exact HB.out)⟩

/-! ### abugidaref01_Mod: function 15 -/
def abugidaref01_Mod.f (a0 : Int) (a1 : Int) : Option (Int) := if a1 = 0 then (none) else (some (Int.tmod (wrap64 ((Int.tmod a0 a1) + a1)) a1))
set_option maxHeartbeats 8000000 in
set_option maxRecDepth 100000 in
theorem abugidaref01_Mod.calls (a0 : Int) (a1 : Int) (r : Int) (w : World) (h : abugidaref01_Mod.f a0 a1 = some r) :
    Calls Try.prog 15 #[.int .i64 a0, .int .i64 a1] w fun e w' => e = .returned (.int .i64 r) ∧ Drawn0 w w' := by
  have H : (if a1 = 0 then (none) else (some (Int.tmod (wrap64 ((Int.tmod a0 a1) + a1)) a1))) = some r := h
  clear h
  by_cases c3 : a1 = 0
  · rw [if_pos c3] at H
    exact absurd H (by simp)
  · rw [if_neg c3] at H
    have c3b0 : (a1 == 0) = false := beq_eq_false_iff_ne.mpr c3
    have c3b1 : (a1 != 0) = true := bne_iff_ne.mpr c3
    obtain rfl := Option.some.inj H
    go_enter Try.func15, Try.ntmps15
    go_wp2
    go_ret
    exact ⟨by first | rfl | (simp; done) | (simp [*]; done), by repeat (first | exact Drawn0.refl _ | apply Drawn0.step)⟩

/-- A state of type 48 at block g of W; what its slices lead to came in by w0. -/
def IsS48 (w0 W : World) (g : Nat) (f0 : List Int) (f1 : Int) : Prop := ∃ A0 c0, W.heap[g]? = some (.cells #[.slice A0 f0.length c0, .int .i64 f1] 48 (0, 0)) ∧ w0.heap.size ≤ g ∧ Kd.C (Kd.int .i64) w0 A0 f0.length f0
theorem IsS48.grown {w0 W : World} {g : Nat} {f0 : List Int} {f1 : Int} {W1 : World} {row : Option Nat} (h : IsS48 w0 W g f0 f1) (hw : W.grownBy W1 row) (hne : some g ≠ row) : IsS48 w0 W1 g f0 f1 := by
  obtain ⟨A0, c0, hb, hg, hr0⟩ := h
  exact ⟨A0, c0, blk_grown hb hw hne, hg, hr0⟩
theorem IsS48.own_neN {w0 W : World} {g : Nat} {f0 : List Int} {f1 : Int} {α : Type} {d : Kd α} {e : Nat} {base : Nat} {ok : Nat → Prop} {v : Value} {xs : List α} (h : IsS48 w0 W g f0 f1) (ho : Kd.N d e W base ok v xs) (ht : e ≠ 48) : some g ≠ v.ownBlock := by
  obtain ⟨A0, c0, hb, hg, hr0⟩ := h
  exact Kd.N_ne ho hb ht
theorem IsS48.fresh {w0 W : World} {g : Nat} {f0 : List Int} {f1 : Int} (h : IsS48 w0 W g f0 f1) : ∀ k, W.heap.size ≤ k → k ≠ g := by
  obtain ⟨A0, c0, hb, hg, hr0⟩ := h
  exact Kd.freshB hb
theorem IsS48.kept {w0 W : World} {g : Nat} {f0 : List Int} {f1 : Int} {W1 : World} {S : Nat → Prop} (h : IsS48 w0 W g f0 f1) (hk : Kept W W1 S) (hne : ¬ S g) : IsS48 w0 W1 g f0 f1 := by
  obtain ⟨A0, c0, hb, hg, hr0⟩ := h
  exact ⟨A0, c0, blk_kept hb hk hne, hg, hr0⟩
theorem IsS48.below {w0 W : World} {g : Nat} {f0 : List Int} {f1 : Int} {W1 : World} (h : IsS48 w0 W g f0 f1) (hw : Below W.heap.size W W1) : IsS48 w0 W1 g f0 f1 := h.grown (grown_of_below hw none) (by simp)
theorem IsS48.alloc {w0 W : World} {g : Nat} {f0 : List Int} {f1 : Int} (h : IsS48 w0 W g f0 f1) (o : Obj) : IsS48 w0 (W.alloc o) g f0 f1 := h.below (below_alloc (Below.refl _ _) o)
theorem IsS48.drewN {w0 W : World} {g : Nat} {f0 : List Int} {f1 : Int} (h : IsS48 w0 W g f0 f1) (m : Nat) : IsS48 w0 (W.drewN m) g f0 f1 := h
theorem IsS48.drew {w0 W : World} {g : Nat} {f0 : List Int} {f1 : Int} (h : IsS48 w0 W g f0 f1) : IsS48 w0 W.drew g f0 f1 := h
theorem IsS48.at_ {w0 W : World} {g : Nat} {f0 : List Int} {f1 : Int} {w' : World} {m : Nat} (hq : W.drewN m = w') (h : IsS48 w0 W g f0 f1) : IsS48 w0 w' g f0 f1 := by subst hq; exact IsS48.drewN h m
theorem IsS48.apart {w0 W : World} {g : Nat} {f0 : List Int} {f1 : Int} {α : Type} {d : Kd α} {e : Nat} {base : Nat} {ok : Nat → Prop} {v : Value} {xs : List α} (h : IsS48 w0 W g f0 f1) (ho : d.R e W base ok v xs) (ht : ∀ q, q ∈ e :: d.E → q ≠ 48) : d.R e W base (fun k => ok k ∧ k ≠ g) v xs := by
  obtain ⟨A0, c0, hb, hg, hr0⟩ := h
  exact Kd.R_types ho hb ht
theorem IsS48.own_ne {w0 W : World} {g : Nat} {f0 : List Int} {f1 : Int} {α : Type} {d : Kd α} {e : Nat} {base : Nat} {ok : Nat → Prop} {v : Value} {xs : List α} (h : IsS48 w0 W g f0 f1) (ho : d.R e W base ok v xs) (ht : e ≠ 48) : some g ≠ v.ownBlock := by
  obtain ⟨A0, c0, hb, hg, hr0⟩ := h
  exact Kd.R_ne ho hb ht
theorem IsS48.apartQ {w0 W : World} {g : Nat} {f0 : List Int} {f1 : Int} {α : Type} {d : Kd α} {e : Nat} {base : Nat} {ok : Nat → Prop} {v : Value} {xs : List α} (h : IsS48 w0 W g f0 f1) (ho : d.Q e W base ok v xs) (ht : ∀ q, q ∈ e :: d.E → q ≠ 48) : d.Q e W base (fun k => ok k ∧ k ≠ g) v xs := by
  obtain ⟨A0, c0, hb, hg, hr0⟩ := h
  exact Kd.Q_types ho hb ht
theorem IsS48.own_neQ {w0 W : World} {g : Nat} {f0 : List Int} {f1 : Int} {α : Type} {d : Kd α} {e : Nat} {base : Nat} {ok : Nat → Prop} {v : Value} {xs : List α} (h : IsS48 w0 W g f0 f1) (ho : d.Q e W base ok v xs) (ht : e ≠ 48) : some g ≠ v.ownBlock := by
  obtain ⟨A0, c0, hb, hg, hr0⟩ := h
  exact Kd.Q_ne ho hb ht
theorem IsS48.apartS {w0 W : World} {g : Nat} {f0 : List Int} {f1 : Int} {α : Type} {d : Kd α} {e : Nat} {base : Nat} {ok : Nat → Prop} {v : Value} {xs : List α} (h : IsS48 w0 W g f0 f1) (ho : d.S e W base ok v xs) (ht : ∀ q, q ∈ e :: d.E → q ≠ 48) : d.S e W base (fun k => ok k ∧ k ≠ g) v xs := by
  obtain ⟨A0, c0, hb, hg, hr0⟩ := h
  exact Kd.S_types ho hb ht
theorem IsS48.own_neS {w0 W : World} {g : Nat} {f0 : List Int} {f1 : Int} {α : Type} {d : Kd α} {e : Nat} {base : Nat} {ok : Nat → Prop} {v : Value} {xs : List α} (h : IsS48 w0 W g f0 f1) (ho : d.S e W base ok v xs) (ht : e ≠ 48) : some g ≠ v.ownBlock := by
  obtain ⟨A0, c0, hb, hg, hr0⟩ := h
  exact Kd.S_ne ho hb ht
theorem IsS48.lt {w0 W : World} {g : Nat} {f0 : List Int} {f1 : Int} (h : IsS48 w0 W g f0 f1) : g < W.heap.size := by
  obtain ⟨A0, c0, hb, hg, hr0⟩ := h
  exact blk_lt hb
theorem IsS48.ge {w0 W : World} {g : Nat} {f0 : List Int} {f1 : Int} (h : IsS48 w0 W g f0 f1) : w0.heap.size ≤ g := by
  obtain ⟨A0, c0, hb, hg, hr0⟩ := h
  exact hg
theorem IsS48.ne_blk {w0 W : World} {g : Nat} {f0 : List Int} {f1 : Int} {a : Nat} {cs : Array Value} {t : TypeId} {fr : Nat × Nat} (h : IsS48 w0 W g f0 f1) (hb2 : W.heap[a]? = some (.cells cs t fr)) (ht : t ≠ 48) : g ≠ a := by
  obtain ⟨A0, c0, hb, hg, hr0⟩ := h
  rintro rfl
  rw [hb] at hb2
  injection hb2 with hb2
  injection hb2 with _ ht2
  exact ht ht2.symm
theorem IsS48.far {w0 W : World} {g : Nat} {f0 : List Int} {f1 : Int} {p : Addr} (h : IsS48 w0 W g f0 f1) (hne : g ≠ p.block) (u : Value) : IsS48 w0 (W.setCell p u) g f0 f1 := by
  obtain ⟨A0, c0, hb, hg, hr0⟩ := h
  exact ⟨A0, c0, blk_far hb hne u, hg, hr0⟩
theorem cellS48_0 {W : World} {g : Nat} {A0 : Option Addr} {c0 : Nat} {f0 : List Int} {f1 : Int} (h : W.heap[g]? = some (.cells #[.slice A0 f0.length c0, .int .i64 f1] 48 (0, 0))) : W.cell? ⟨g, 0, none⟩ = some (.slice A0 f0.length c0) := (blk_cell h 0).trans rfl
theorem cellS48_1 {W : World} {g : Nat} {A0 : Option Addr} {c0 : Nat} {f0 : List Int} {f1 : Int} (h : W.heap[g]? = some (.cells #[.slice A0 f0.length c0, .int .i64 f1] 48 (0, 0))) : W.cell? ⟨g, 1, none⟩ = some (.int .i64 f1) := (blk_cell h 1).trans rfl
theorem IsS48.set_1 {w0 W : World} {g : Nat} {f0 : List Int} {f1 : Int} (h : IsS48 w0 W g f0 f1) (x : Int) : IsS48 w0 (W.setCell ⟨g, 1, none⟩ (.int .i64 x)) g f0 x := by
  obtain ⟨A0, c0, hb, hg, hr0⟩ := h
  exact ⟨A0, c0, by simpa using blk_set hb 1 (.int .i64 x), hg, hr0⟩
theorem IsS48.new (w0 W : World) (A0 : Option Addr) (c0 : Nat) (f0 : List Int) (f1 : Int) (hB : Below w0.heap.size w0 W) (hr0 : Kd.C (Kd.int .i64) w0 A0 f0.length f0) : IsS48 w0 (W.alloc (.cells #[.slice A0 f0.length c0, .int .i64 f1] 48)) W.heap.size f0 f1 := ⟨A0, c0, by simpa using heap_alloc_new W _, hB.size, hr0⟩

/-! ### abugidaref01_Draw_Next: function 17 -/
def abugidaref01_Draw_Next.f (s0_0 : List Int) (s0_1 : Int) (a1 : Int) : Option (Int × Int) := if s0_1 ≥ (s0_0.length : Int) then (some (0, s0_1)) else (if 0 ≤ (wrap64 ((wrap64 (s0_1 + 1)) - 1)) then (if (wrap64 ((wrap64 (s0_1 + 1)) - 1)) < (s0_0.length : Int) then ((abugidaref01_Mod.f (rd s0_0 (wrap64 ((wrap64 (s0_1 + 1)) - 1))) a1).bind fun t131 => (some (t131, wrap64 (s0_1 + 1)))) else (none)) else (none))
set_option maxHeartbeats 8000000 in
set_option maxRecDepth 100000 in
theorem abugidaref01_Draw_Next.calls (g : Nat) (s0_0 : List Int) (s0_1 : Int) (a1 : Int) (r1 : Int) (r2 : Int) (w0 w : World) (hI : IsS48 w0 w g s0_0 s0_1) (hB : Below w0.heap.size w0 w) (h : abugidaref01_Draw_Next.f s0_0 s0_1 a1 = some (r1, r2)) :
    Calls Try.prog 17 #[.pointer (some ⟨g, 0, none⟩), .int .i64 a1] w fun e w' => e = .returned (.int .i64 r1) ∧ IsS48 w0 w' g s0_0 r2 ∧ Below w0.heap.size w0 w' ∧ KeepBut w w' g none := by
  have HI0 := Aside0.mk hI
  have HK := Aside0.mk (KeepBut.refl w g none)
  have HL := Aside0.mk hB.size
  clear hI
  have HW0 := Aside0.mk hB.size
  have HB := Aside0.mk hB
  clear hB
  have H : (if s0_1 ≥ (s0_0.length : Int) then (some (0, s0_1)) else (if 0 ≤ (wrap64 ((wrap64 (s0_1 + 1)) - 1)) then (if (wrap64 ((wrap64 (s0_1 + 1)) - 1)) < (s0_0.length : Int) then ((abugidaref01_Mod.f (rd s0_0 (wrap64 ((wrap64 (s0_1 + 1)) - 1))) a1).bind fun t131 => (some (t131, wrap64 (s0_1 + 1)))) else (none)) else (none))) = some (r1, r2) := h
  clear h
  by_cases c3 : s0_1 ≥ (s0_0.length : Int)
  · rw [if_pos c3] at H
    have c3b0 : decide ((s0_0.length : Int) ≤ s0_1) = true := decide_eq_true c3
    clear c3
    simp only [Option.some.injEq, Prod.mk.injEq] at H
    obtain ⟨rfl, rfl⟩ := H
    obtain ⟨ASz4_0, cSz4_0, HGz4, hgz4, HSz4_0⟩ := HI0.out
    have hcz4_0 := cellS48_0 HGz4
    have hcz4_1 := cellS48_1 HGz4
    have hfz4_1 := blk_frozen HGz4 1
    clear HGz4 hgz4
    go_enter Try.func17, Try.ntmps17
    go_wp2
    repeat (go_quiet (fail); try go_wp2)
    go_ret
    exact ⟨by first | rfl | (simp [errW_none, errW_some] <;> rfl) | (simp [*, errW_none, errW_some] <;> rfl), by repeat (first | (with_reducible first | exact HI0.out | apply IsS48.alloc | apply IsS48.drewN | apply IsS48.drew | apply IsS48.set_1) | exact HI0.out), by repeat (first | (with_reducible first | exact HB.out | apply below_alloc | apply pw_below_drewN | apply below_drew1 | refine below_set ?_ (IsS48.ge HI0.out)) | exact HB.out), by repeat (first | (with_reducible first | exact HK.out | apply KeepBut.set_ | apply keep_drewN | apply keep_drew | apply keep_alloc) | exact HK.out)⟩
  · rw [if_neg c3] at H
    have c3b0 : decide ((s0_0.length : Int) ≤ s0_1) = false := decide_eq_false c3
    clear c3
    obtain ⟨ji5, hji5⟩ : ∃ j_ : Int, (wrap64 ((wrap64 (s0_1 + 1)) - 1)) = j_ := ⟨_, rfl⟩
    replace H : (if 0 ≤ (ji5) then (if (ji5) < (s0_0.length : Int) then ((abugidaref01_Mod.f (rd s0_0 (ji5)) a1).bind fun t131 => (some (t131, wrap64 (s0_1 + 1)))) else (none)) else (none)) = some (r1, r2) := by first | (rw [hji5] at H; exact H) | (simp only [hji5] at H ⊢; exact H)
    have hji5w : (IntKind.i64.wrap ((wrap64 (s0_1 + 1)) - 1)) = ji5 := (i64_w _).trans hji5
    by_cases c6 : 0 ≤ (ji5)
    · rw [if_pos c6] at H
      have c6b0 : decide (0 ≤ (ji5)) = true := decide_eq_true c6
      clear c6
      by_cases c7 : (ji5) < (s0_0.length : Int)
      · rw [if_pos c7] at H
        have c7b0 : decide ((ji5) < (s0_0.length : Int)) = true := decide_eq_true c7
        clear c7
        replace H := Option.bind_eq_some_iff.mp H
        obtain ⟨t131, A80, H⟩ := H
        replace H : (some (t131, wrap64 (s0_1 + 1))) = some (r1, r2) := H
        have A8 := Aside0.mk A80
        clear A80
        simp only [Option.some.injEq, Prod.mk.injEq] at H
        obtain ⟨rfl, rfl⟩ := H
        obtain ⟨ASz9_0, cSz9_0, HGz9, hgz9, HSz9_0⟩ := HI0.out
        have hcz9_0 := cellS48_0 HGz9
        have hcz9_1 := cellS48_1 HGz9
        have hfz9_1 := blk_frozen HGz9 1
        clear HGz9 hgz9
        have p130 : 0 ≤ ((ji5) : Int) := of_decide_eq_true (by first | (with_reducible assumption) | assumption)
        have q130 : (ji5) < (s0_0.length : Int) := of_decide_eq_true (by first | (with_reducible assumption) | assumption)
        obtain ⟨ad130, e130, hx130_0⟩ := Kd.at_int HSz9_0 (ji5) p130 q130
        cases e130
        have hn130_0 : ad130.block ≠ g := Nat.ne_of_lt (Nat.lt_of_lt_of_le (by have := World.block_lt_of_cell? _ _ hx130_0; first | rwa [add_block] at this | exact this) (IsS48.ge HI0.out))
        replace hx130_0 := pw_cell_below HB.out hx130_0
        replace hx130_0 := (cell_far (p := ⟨g, 1, none⟩) (by first | (rw [add_block]; exact hn130_0) | (show (Addr.add _ _).block ≠ _; rw [add_block]; exact hn130_0) | exact hn130_0) (.int .i64 (wrap64 (s0_1 + 1)))).trans hx130_0
        (try have hy130_0 := fun (n_ : Nat) => (show (((w.drewN n_).setCell ⟨g, 1, none⟩ (.int .i64 (wrap64 (s0_1 + 1))))).cell? _ = some _ from hx130_0))
        clear hn130_0
        replace p130 := eq_true p130
        replace q130 := eq_true q130
        go_enter Try.func17, Try.ntmps17
        go_wp2_with (first | (go_at_call 15; (with_reducible refine (abugidaref01_Mod.calls (rd s0_0 (ji5)) a1 t131 _ A8.out).mono ?_); rintro e w' ⟨rfl, ⟨nd, rfl⟩⟩; (try first | exact ⟨rfl, _, World.drewN_drewN _ _ _⟩ | exact ⟨rfl, _, Eq.trans (World.drewN_drewN _ _ _) (congrArg (World.drewN _) (Nat.add_assoc _ _ _))⟩)))
        repeat (go_quiet (first | (go_at_call 15; (with_reducible refine (abugidaref01_Mod.calls (rd s0_0 (ji5)) a1 t131 _ A8.out).mono ?_); rintro e w' ⟨rfl, ⟨nd, rfl⟩⟩; (try first | exact ⟨rfl, _, World.drewN_drewN _ _ _⟩ | exact ⟨rfl, _, Eq.trans (World.drewN_drewN _ _ _) (congrArg (World.drewN _) (Nat.add_assoc _ _ _))⟩))); try go_wp2_with (first | (go_at_call 15; (with_reducible refine (abugidaref01_Mod.calls (rd s0_0 (ji5)) a1 t131 _ A8.out).mono ?_); rintro e w' ⟨rfl, ⟨nd, rfl⟩⟩; (try first | exact ⟨rfl, _, World.drewN_drewN _ _ _⟩ | exact ⟨rfl, _, Eq.trans (World.drewN_drewN _ _ _) (congrArg (World.drewN _) (Nat.add_assoc _ _ _))⟩))))
        go_ret
        exact ⟨by first | rfl | (simp [errW_none, errW_some] <;> rfl) | (simp only [← hji5]; first | rfl | (simp [errW_none, errW_some] <;> rfl)) | (simp [*, errW_none, errW_some] <;> rfl), by repeat (first | (with_reducible first | exact HI0.out | apply IsS48.alloc | apply IsS48.drewN | apply IsS48.drew | apply IsS48.set_1) | exact HI0.out), by repeat (first | (with_reducible first | exact HB.out | apply below_alloc | apply pw_below_drewN | apply below_drew1 | refine below_set ?_ (IsS48.ge HI0.out)) | exact HB.out), by repeat (first | (with_reducible first | exact HK.out | apply KeepBut.set_ | apply keep_drewN | apply keep_drew | apply keep_alloc) | exact HK.out)⟩
      · rw [if_neg c7] at H
        exact absurd H (by simp)
    · rw [if_neg c6] at H
      exact absurd H (by simp)

-- NOT PRINTED: function 11 (abugidaref19_Made)

/-! ### abugidaref01_Small: function 29 -/
def abugidaref01_Small.f (a0 : Int) : Option (Bool) := if a0 ≥ (-1048576) then (some (decide (a0 ≤ 1048576))) else (some false)
set_option maxHeartbeats 8000000 in
set_option maxRecDepth 100000 in
theorem abugidaref01_Small.calls (a0 : Int) (r : Bool) (w : World) (h : abugidaref01_Small.f a0 = some r) :
    Calls Try.prog 29 #[.int .i64 a0] w fun e w' => e = .returned (.bool r) ∧ Drawn0 w w' := by
  have H : (if a0 ≥ (-1048576) then (some (decide (a0 ≤ 1048576))) else (some false)) = some r := h
  clear h
  by_cases c2 : a0 ≥ (-1048576)
  · rw [if_pos c2] at H
    have c2b0 : decide ((-1048576) ≤ a0) = true := decide_eq_true c2
    clear c2
    obtain rfl := Option.some.inj H
    go_enter Try.func29, Try.ntmps29
    go_wp2
    go_ret
    exact ⟨by first | rfl | (simp; done) | (simp [*]; done), by repeat (first | exact Drawn0.refl _ | apply Drawn0.step)⟩
  · rw [if_neg c2] at H
    have c2b0 : decide ((-1048576) ≤ a0) = false := decide_eq_false c2
    clear c2
    obtain rfl := Option.some.inj H
    go_enter Try.func29, Try.ntmps29
    go_wp2
    go_ret
    exact ⟨by first | rfl | (simp; done) | (simp [*]; done), by repeat (first | exact Drawn0.refl _ | apply Drawn0.step)⟩

end Go.Proofs.Ytnnkbcgoockniaa.Q

-- Written by wip/tools/myprint.py, a program of this session that drives the kit's print.py; not a text of print.sh.
import Derived.Test.YtngdddgoplmlbaaQx0
namespace Go.Proofs.Ytngdddgoplmlbaa.Q
open Go.RowKit Go.Proofs.YtngdddgoplmlbaaW.PrintWords Go.Proofs.YtngdddgoplmlbaaW.PrintLast Go.Proofs.YtngdddgoplmlbaaW.PrintMore
attribute [local go_sem] max2_int min2_int max_two min_two max_three min_three max_four min_four   -- for this text's walks alone
set_option linter.unusedVariables false
set_option linter.unusedSimpArgs false

/-! ### chars_blocks: function 32 -/
def chars_blocks.f  : Option ((List (S52))) := some (([(⟨10, 10, (⟨1, 0⟩ : S47)⟩ : S52), (⟨32, 32, (⟨2, 0⟩ : S47)⟩ : S52), (⟨33, 47, (⟨4, 0⟩ : S47)⟩ : S52), (⟨48, 57, (⟨3, 0⟩ : S47)⟩ : S52), (⟨64, 95, (⟨5, 1⟩ : S47)⟩ : S52), (⟨96, 103, (⟨6, 1⟩ : S47)⟩ : S52), (⟨104, 127, (⟨7, 2⟩ : S47)⟩ : S52), (⟨128, 143, (⟨8, 2⟩ : S47)⟩ : S52), (⟨144, 151, (⟨6, 2⟩ : S47)⟩ : S52), (⟨152, 183, (⟨9, 3⟩ : S47)⟩ : S52), (⟨184, 184, (⟨10, 3⟩ : S47)⟩ : S52), (⟨185, 191, (⟨11, 3⟩ : S47)⟩ : S52), (⟨192, 199, (⟨12, 3⟩ : S47)⟩ : S52), (⟨200, 207, (⟨6, 3⟩ : S47)⟩ : S52), (⟨240, 240, (⟨13, 0⟩ : S47)⟩ : S52), (⟨241, 241, (⟨14, 0⟩ : S47)⟩ : S52)] : List (S52)))
set_option maxHeartbeats 8000000 in
set_option maxRecDepth 100000 in
theorem chars_blocks.calls  (r : List (S52)) (w : World) (h : chars_blocks.f  = some r) :
    Calls Try.prog 32 #[] w fun e w' => ∃ v0_ : Value, e = .returned (v0_) ∧ Kd.R k52 52 w' w.heap.size (fun _ => True) v0_ r ∧ Below w.heap.size w w' := by
  have hu47 := Try.underlying47
  have hu52 := Try.underlying52
  have HB := Aside0.mk (Below.refl w.heap.size w)
  have H : (some (([(⟨10, 10, (⟨1, 0⟩ : S47)⟩ : S52), (⟨32, 32, (⟨2, 0⟩ : S47)⟩ : S52), (⟨33, 47, (⟨4, 0⟩ : S47)⟩ : S52), (⟨48, 57, (⟨3, 0⟩ : S47)⟩ : S52), (⟨64, 95, (⟨5, 1⟩ : S47)⟩ : S52), (⟨96, 103, (⟨6, 1⟩ : S47)⟩ : S52), (⟨104, 127, (⟨7, 2⟩ : S47)⟩ : S52), (⟨128, 143, (⟨8, 2⟩ : S47)⟩ : S52), (⟨144, 151, (⟨6, 2⟩ : S47)⟩ : S52), (⟨152, 183, (⟨9, 3⟩ : S47)⟩ : S52), (⟨184, 184, (⟨10, 3⟩ : S47)⟩ : S52), (⟨185, 191, (⟨11, 3⟩ : S47)⟩ : S52), (⟨192, 199, (⟨12, 3⟩ : S47)⟩ : S52), (⟨200, 207, (⟨6, 3⟩ : S47)⟩ : S52), (⟨240, 240, (⟨13, 0⟩ : S47)⟩ : S52), (⟨241, 241, (⟨14, 0⟩ : S47)⟩ : S52)] : List (S52)))) = some r := h
  clear h
  obtain ⟨y101, hy101⟩ : ∃ y_ : List (S52), y_ = (([(⟨10, 10, (⟨1, 0⟩ : S47)⟩ : S52), (⟨32, 32, (⟨2, 0⟩ : S47)⟩ : S52), (⟨33, 47, (⟨4, 0⟩ : S47)⟩ : S52), (⟨48, 57, (⟨3, 0⟩ : S47)⟩ : S52), (⟨64, 95, (⟨5, 1⟩ : S47)⟩ : S52), (⟨96, 103, (⟨6, 1⟩ : S47)⟩ : S52), (⟨104, 127, (⟨7, 2⟩ : S47)⟩ : S52), (⟨128, 143, (⟨8, 2⟩ : S47)⟩ : S52), (⟨144, 151, (⟨6, 2⟩ : S47)⟩ : S52), (⟨152, 183, (⟨9, 3⟩ : S47)⟩ : S52), (⟨184, 184, (⟨10, 3⟩ : S47)⟩ : S52), (⟨185, 191, (⟨11, 3⟩ : S47)⟩ : S52), (⟨192, 199, (⟨12, 3⟩ : S47)⟩ : S52), (⟨200, 207, (⟨6, 3⟩ : S47)⟩ : S52), (⟨240, 240, (⟨13, 0⟩ : S47)⟩ : S52), (⟨241, 241, (⟨14, 0⟩ : S47)⟩ : S52)] : List (S52))) := ⟨_, rfl⟩
  replace H : (some y101) = some r := by first | (rw [hy101]; with_reducible exact H) | (have H2_ := (Option.bind_some _ _).symm.trans H; rw [hy101]; with_reducible exact H2_) | (have H2_ := (Option.bind_some _ _).symm.trans H; with_reducible exact H2_) | with_reducible exact H | (rw [hy101]; exact H) | exact H
  have Ny101 := Aside0.mk hy101
  clear hy101
  obtain rfl := Option.some.inj H
  go_enter Try.func32, Try.ntmps32
  go_wp2_with (first | ((with_reducible refine gate_dst (N := 33) rfl ?_); refine Kd.R_lit k52 _ 52 ?hg (N := 33) ?hd (xs := ([(⟨10, 10, (⟨1, 0⟩ : S47)⟩ : S52), (⟨32, 32, (⟨2, 0⟩ : S47)⟩ : S52), (⟨33, 47, (⟨4, 0⟩ : S47)⟩ : S52), (⟨48, 57, (⟨3, 0⟩ : S47)⟩ : S52), (⟨64, 95, (⟨5, 1⟩ : S47)⟩ : S52), (⟨96, 103, (⟨6, 1⟩ : S47)⟩ : S52), (⟨104, 127, (⟨7, 2⟩ : S47)⟩ : S52), (⟨128, 143, (⟨8, 2⟩ : S47)⟩ : S52), (⟨144, 151, (⟨6, 2⟩ : S47)⟩ : S52), (⟨152, 183, (⟨9, 3⟩ : S47)⟩ : S52), (⟨184, 184, (⟨10, 3⟩ : S47)⟩ : S52), (⟨185, 191, (⟨11, 3⟩ : S47)⟩ : S52), (⟨192, 199, (⟨12, 3⟩ : S47)⟩ : S52), (⟨200, 207, (⟨6, 3⟩ : S47)⟩ : S52), (⟨240, 240, (⟨13, 0⟩ : S47)⟩ : S52), (⟨241, 241, (⟨14, 0⟩ : S47)⟩ : S52)] : List (S52))) (inner := [.int .i64 10, .int .i64 10, .int .i64 1, .int .i64 0, .int .i64 32, .int .i64 32, .int .i64 2, .int .i64 0, .int .i64 33, .int .i64 47, .int .i64 4, .int .i64 0, .int .i64 48, .int .i64 57, .int .i64 3, .int .i64 0, .int .i64 64, .int .i64 95, .int .i64 5, .int .i64 1, .int .i64 96, .int .i64 103, .int .i64 6, .int .i64 1, .int .i64 104, .int .i64 127, .int .i64 7, .int .i64 2, .int .i64 128, .int .i64 143, .int .i64 8, .int .i64 2, .int .i64 144, .int .i64 151, .int .i64 6, .int .i64 2, .int .i64 152, .int .i64 183, .int .i64 9, .int .i64 3, .int .i64 184, .int .i64 184, .int .i64 10, .int .i64 3, .int .i64 185, .int .i64 191, .int .i64 11, .int .i64 3, .int .i64 192, .int .i64 199, .int .i64 12, .int .i64 3, .int .i64 200, .int .i64 207, .int .i64 6, .int .i64 3, .int .i64 240, .int .i64 240, .int .i64 13, .int .i64 0, .int .i64 241, .int .i64 241, .int .i64 14, .int .i64 0]) (ok := fun _ => True) (okp := fun _ => True) ?hr ?hp (fun _ hk => hk) trivial (Below.refl _ _) (Nat.le_refl _) (by simp) ?_; (case hd => rfl); (case hg => rfl); (case hr => first | (go_simp; done) | (go_simp; rfl)); (case hp => exact (Reps.c4 (show Kd.M k52 _ _ _ (⟨10, 10, (⟨1, 0⟩ : S47)⟩ : S52) [.int .i64 10, .int .i64 10, .int .i64 1, .int .i64 0] from (k52_mkM _ _ _ (⟨10, 10, (⟨1, 0⟩ : S47)⟩ : S52) )) (Reps.c4 (show Kd.M k52 _ _ _ (⟨32, 32, (⟨2, 0⟩ : S47)⟩ : S52) [.int .i64 32, .int .i64 32, .int .i64 2, .int .i64 0] from (k52_mkM _ _ _ (⟨32, 32, (⟨2, 0⟩ : S47)⟩ : S52) )) (Reps.c4 (show Kd.M k52 _ _ _ (⟨33, 47, (⟨4, 0⟩ : S47)⟩ : S52) [.int .i64 33, .int .i64 47, .int .i64 4, .int .i64 0] from (k52_mkM _ _ _ (⟨33, 47, (⟨4, 0⟩ : S47)⟩ : S52) )) (Reps.c4 (show Kd.M k52 _ _ _ (⟨48, 57, (⟨3, 0⟩ : S47)⟩ : S52) [.int .i64 48, .int .i64 57, .int .i64 3, .int .i64 0] from (k52_mkM _ _ _ (⟨48, 57, (⟨3, 0⟩ : S47)⟩ : S52) )) (Reps.c4 (show Kd.M k52 _ _ _ (⟨64, 95, (⟨5, 1⟩ : S47)⟩ : S52) [.int .i64 64, .int .i64 95, .int .i64 5, .int .i64 1] from (k52_mkM _ _ _ (⟨64, 95, (⟨5, 1⟩ : S47)⟩ : S52) )) (Reps.c4 (show Kd.M k52 _ _ _ (⟨96, 103, (⟨6, 1⟩ : S47)⟩ : S52) [.int .i64 96, .int .i64 103, .int .i64 6, .int .i64 1] from (k52_mkM _ _ _ (⟨96, 103, (⟨6, 1⟩ : S47)⟩ : S52) )) (Reps.c4 (show Kd.M k52 _ _ _ (⟨104, 127, (⟨7, 2⟩ : S47)⟩ : S52) [.int .i64 104, .int .i64 127, .int .i64 7, .int .i64 2] from (k52_mkM _ _ _ (⟨104, 127, (⟨7, 2⟩ : S47)⟩ : S52) )) (Reps.c4 (show Kd.M k52 _ _ _ (⟨128, 143, (⟨8, 2⟩ : S47)⟩ : S52) [.int .i64 128, .int .i64 143, .int .i64 8, .int .i64 2] from (k52_mkM _ _ _ (⟨128, 143, (⟨8, 2⟩ : S47)⟩ : S52) )) (Reps.c4 (show Kd.M k52 _ _ _ (⟨144, 151, (⟨6, 2⟩ : S47)⟩ : S52) [.int .i64 144, .int .i64 151, .int .i64 6, .int .i64 2] from (k52_mkM _ _ _ (⟨144, 151, (⟨6, 2⟩ : S47)⟩ : S52) )) (Reps.c4 (show Kd.M k52 _ _ _ (⟨152, 183, (⟨9, 3⟩ : S47)⟩ : S52) [.int .i64 152, .int .i64 183, .int .i64 9, .int .i64 3] from (k52_mkM _ _ _ (⟨152, 183, (⟨9, 3⟩ : S47)⟩ : S52) )) (Reps.c4 (show Kd.M k52 _ _ _ (⟨184, 184, (⟨10, 3⟩ : S47)⟩ : S52) [.int .i64 184, .int .i64 184, .int .i64 10, .int .i64 3] from (k52_mkM _ _ _ (⟨184, 184, (⟨10, 3⟩ : S47)⟩ : S52) )) (Reps.c4 (show Kd.M k52 _ _ _ (⟨185, 191, (⟨11, 3⟩ : S47)⟩ : S52) [.int .i64 185, .int .i64 191, .int .i64 11, .int .i64 3] from (k52_mkM _ _ _ (⟨185, 191, (⟨11, 3⟩ : S47)⟩ : S52) )) (Reps.c4 (show Kd.M k52 _ _ _ (⟨192, 199, (⟨12, 3⟩ : S47)⟩ : S52) [.int .i64 192, .int .i64 199, .int .i64 12, .int .i64 3] from (k52_mkM _ _ _ (⟨192, 199, (⟨12, 3⟩ : S47)⟩ : S52) )) (Reps.c4 (show Kd.M k52 _ _ _ (⟨200, 207, (⟨6, 3⟩ : S47)⟩ : S52) [.int .i64 200, .int .i64 207, .int .i64 6, .int .i64 3] from (k52_mkM _ _ _ (⟨200, 207, (⟨6, 3⟩ : S47)⟩ : S52) )) (Reps.c4 (show Kd.M k52 _ _ _ (⟨240, 240, (⟨13, 0⟩ : S47)⟩ : S52) [.int .i64 240, .int .i64 240, .int .i64 13, .int .i64 0] from (k52_mkM _ _ _ (⟨240, 240, (⟨13, 0⟩ : S47)⟩ : S52) )) (Reps.c4 (show Kd.M k52 _ _ _ (⟨241, 241, (⟨14, 0⟩ : S47)⟩ : S52) [.int .i64 241, .int .i64 241, .int .i64 14, .int .i64 0] from (k52_mkM _ _ _ (⟨241, 241, (⟨14, 0⟩ : S47)⟩ : S52) )) (Reps.none _ _)))))))))))))))))); intro v102 w1 ho2 hb hg_ hnew_; clear hg_ hnew_; (first | rw [← Ny101.out] at ho2 | (simp only [Int.reduceToNat] at ho2; rw [← Ny101.out] at ho2)); have n0_ := Aside0.mk (Kd.R_lower ho2 (below_size (by repeat (first | (with_reducible first | exact HB.out | apply below_alloc | apply pw_below_drewN | apply below_drew1) | exact HB.out)))); have n1_ := Aside0.mk (below_step (by repeat (first | (with_reducible first | exact HB.out | apply below_alloc | apply pw_below_drewN | apply below_drew1) | exact HB.out)) hb); clear HB; have HO103 := n0_; have HB := n1_; clear n0_ n1_; clear hb ho2))
  go_ret
  exact ⟨_, by first | rfl | (simp [errW_none, errW_some] <;> rfl) | (simp [*, errW_none, errW_some] <;> rfl), by (with_reducible repeat (first | apply Kd.R_alloc | apply Kd.R_drewN | apply Kd.R_drew)); exact HO103.out, by repeat (first | (with_reducible first | exact HB.out | apply below_alloc | apply pw_below_drewN | apply below_drew1) | exact HB.out)⟩

/-! ### chars_of: function 27 -/
def chars_of.l0 : Nat → Int → List (S52) → Int → Int → Option (Int × Int)
  | 0, _, _, _, _ => none
  | k + 1, x0, x5, x6, x7 => if x7 < x6 then (if 0 ≤ x7 then (if x7 < (x5.length : Int) then (if x0 ≥ ((rd_T52 x5 x7).f0) then (if x0 ≤ ((rd_T52 x5 x7).f1) then (some ((rd_T52 x5 x7).f2.f0, (rd_T52 x5 x7).f2.f1)) else (chars_of.l0 k x0 x5 x6 (wrap64 (x7 + 1)))) else (chars_of.l0 k x0 x5 x6 (wrap64 (x7 + 1)))) else (none)) else (none)) else (some (0, 0))
def chars_of.f (k : Nat) (a0 : Int) : Option (Int × Int) := (chars_blocks.f).bind fun t105 => (chars_of.l0 k a0 t105 (t105.length : Int) 0)
theorem chars_of.mono_l : ∀ k, (∀ y0 y1 y2 y3, LeO (chars_of.l0 k y0 y1 y2 y3) (chars_of.l0 (k + 1) y0 y1 y2 y3))
  | 0 => fun _ _ _ _ r h => by simp [chars_of.l0] at h
  | k + 1 => by
    have ih0 := chars_of.mono_l k
    · intro y0 y1 y2 y3
      unfold chars_of.l0
      repeat' first
      | (with_reducible exact ih0 _ _ _ _)
      | (with_reducible exact LeO.refl _)
      | (with_reducible exact LeO.none _)
      | (with_reducible refine LeO.ite ?_ ?_)
      | (with_reducible refine LeO.bind ?_ (fun _ => ?_))
      | exact ih0 _ _ _ _
      | exact LeO.none _
      | refine LeO.ite ?_ ?_
      | refine LeO.bind ?_ (fun _ => ?_)
theorem chars_of.mono : ∀ a0 k, LeO (chars_of.f k a0) (chars_of.f (k + 1) a0) := by
  intro a0 k
  have ih0 := chars_of.mono_l k
  unfold chars_of.f
  repeat' first
      | (with_reducible exact ih0 _ _ _ _)
      | (with_reducible exact LeO.refl _)
      | (with_reducible exact LeO.none _)
      | (with_reducible refine LeO.ite ?_ ?_)
      | (with_reducible refine LeO.bind ?_ (fun _ => ?_))
      | exact ih0 _ _ _ _
      | exact LeO.none _
      | refine LeO.ite ?_ ?_
      | refine LeO.bind ?_ (fun _ => ?_)
set_option maxHeartbeats 8000000 in
set_option maxRecDepth 100000 in
theorem chars_of.calls (k : Nat) (a0 : Int) (r1 : Int) (r2 : Int) (w : World) (h : chars_of.f k a0 = some (r1, r2)) :
    Calls Try.prog 27 #[.int .i64 a0] w fun e w' => e = .returned (.agg #[.int .i64 r1, .int .i64 r2]) ∧ Below w.heap.size w w' := by
  have hu47 := Try.underlying47
  have hu52 := Try.underlying52
  have HB := Aside0.mk (Below.refl w.heap.size w)
  have H : ((chars_blocks.f).bind fun t105 => (chars_of.l0 k a0 t105 (t105.length : Int) 0)) = some (r1, r2) := h
  clear h
  replace H := Option.bind_eq_some_iff.mp H
  obtain ⟨t105, A20, H⟩ := H
  replace H : (chars_of.l0 k a0 t105 (t105.length : Int) 0) = some (r1, r2) := H
  have A2 := Aside0.mk A20
  clear A20
  have H' := Aside0.mk H
  clear H
  go_enter Try.func27, Try.ntmps27
  go_wp2_with (first | ((with_reducible refine gate_dst (N := 2) rfl ?_); refine box_event ?hg (N := 2) ?hd (cs := #[.int .i64 0, .int .i64 0]) (t := 47) ?hr ?_; (case hd => rfl); (case hg => rfl); (case hr => first | (go_simp; done) | (go_simp; rfl)); intro gb104 hg w3 hbox hb; have n0_ := Aside0.mk (below_step (by repeat (first | (with_reducible first | exact HB.out | apply below_alloc | apply pw_below_drewN | apply below_drew1) | exact HB.out)) hb); have n1_ := Aside0.mk (hbox); have n2_ := Aside0.mk ((by rw [hg]; exact (below_size (by repeat (first | (with_reducible first | exact HB.out | apply below_alloc | apply pw_below_drewN | apply below_drew1) | exact HB.out))) : w.heap.size ≤ gb104)); have n3_ := Aside0.mk ((by rw [hg]; exact (below_size (by repeat (first | (with_reducible first | exact HB.out | apply below_alloc | apply pw_below_drewN | apply below_drew1) | exact HB.out))) : w.heap.size ≤ gb104)); clear HB; have HB := n0_; have BK104 := n1_; have GW104 := n2_; have GE104 := n3_; clear n0_ n1_ n2_ n3_; clear hb hbox hg) | ((with_reducible refine gate_callee (f := 32) rfl ?_); refine goesL_ (some 5) rfl rfl Try.func32 (by kernel_rfl) rfl #[] rfl (by (try simp only [List.map_toArray, List.map_cons, List.map_nil]); first | done | rfl | (simp only [List.length_drop, List.length_take]; rfl)) ?_; (with_reducible refine (chars_blocks.calls  t105 _ A2.out).mono ?_); rintro e w4 ⟨v106, rfl, ho0, hb⟩; refine ⟨_, rfl, ?_⟩; have n0_ := Aside0.mk (Kd.R_lower ho0 (below_size (by repeat (first | (with_reducible first | exact HB.out | apply below_alloc | apply pw_below_drewN | apply below_drew1 | refine below_set ?_ GE104.out) | exact HB.out)))); have n1_ := Aside0.mk (blk_below (g := gb104) (o := .cells #[.int .i64 0, .int .i64 0] 47 (0, 0)) (by (with_reducible repeat (first | refine blk_drewN ?_ _ | refine blk_drew ?_ | refine blk_alloc ?_ _)); exact BK104.out) hb); have n2_ := Aside0.mk (below_step (by repeat (first | (with_reducible first | exact HB.out | apply below_alloc | apply pw_below_drewN | apply below_drew1 | refine below_set ?_ GE104.out) | exact HB.out)) hb); clear BK104; clear HB; have HO107 := n0_; have BK104 := n1_; have HB := n2_; clear n0_ n1_ n2_; (try clear hb); (try clear hb2); (try clear hk); (try clear hi); (try clear ho0); obtain ⟨Ao5, co5, eo5⟩ := Kd.R_slice HO107.out; subst eo5))
  go_loopg [7] k (fun kq v7 w' => ∃ (x7_1 : Int) (x105000_1 : Int) (x105001_1 : Int), v7 = .int .i64 x7_1 ∧ Aside0 (chars_of.l0 kq a0 t105 (t105.length : Int) x7_1 = some (r1, r2)) ∧ Aside0 (kq ≤ k) ∧ Aside0 (Kd.R k52 52 w' w.heap.size (fun _ => True) (.slice Ao5 t105.length co5) t105) ∧ Aside0 (w'.heap[gb104]? = some (.cells #[.int .i64 x105000_1, .int .i64 x105001_1] 47 (0, 0))) ∧ Aside0 (Below w.heap.size w w'))
  case atStart => exact ⟨(0), (0), (0), (by first | rfl | (simp; done) | (simp [*]; done)), H', ⟨Nat.le_refl _⟩, ⟨by (with_reducible repeat (first | apply Kd.R_alloc | apply Kd.R_drewN | apply Kd.R_drew)); exact HO107.out⟩, ⟨by (with_reducible repeat (first | refine blk_drewN ?_ _ | refine blk_drew ?_ | refine blk_alloc ?_ _)); exact BK104.out⟩, ⟨by repeat (first | (with_reducible first | exact HB.out | apply below_alloc | apply pw_below_drewN | apply below_drew1 | refine below_set ?_ GE104.out) | exact HB.out)⟩⟩
  case round =>
    clear H'
    try clear c2
    try clear p2
    try clear c3
    obtain ⟨x7_1, x105000_1, x105001_1, rfl, HA, HK1, HO_5, BK104, HB⟩ := hrel
    cases gk with
    | zero => exact absurd HA.out (by simp [chars_of.l0])
    | succ k1 =>
      have H := HA.out
      clear HA
      simp only [chars_of.l0] at H
      by_cases c6 : x7_1 < (t105.length : Int)
      · rw [if_pos c6] at H
        have c6b0 : decide (x7_1 < (t105.length : Int)) = true := decide_eq_true c6
        clear c6
        by_cases c7 : 0 ≤ x7_1
        · rw [if_pos c7] at H
          have c7b0 : decide (0 ≤ x7_1) = true := decide_eq_true c7
          clear c7
          by_cases c8 : x7_1 < (t105.length : Int)
          · rw [if_pos c8] at H
            have c8b0 : decide (x7_1 < (t105.length : Int)) = true := decide_eq_true c8
            clear c8
            by_cases c9 : a0 ≥ ((rd_T52 t105 x7_1).f0)
            · rw [if_pos c9] at H
              have c9b0 : decide (((rd_T52 t105 x7_1).f0) ≤ a0) = true := decide_eq_true c9
              clear c9
              by_cases c10 : a0 ≤ ((rd_T52 t105 x7_1).f1)
              · rw [if_pos c10] at H
                have c10b0 : decide (a0 ≤ ((rd_T52 t105 x7_1).f1)) = true := decide_eq_true c10
                clear c10
                simp only [Option.some.injEq, Prod.mk.injEq] at H
                obtain ⟨rfl, rfl⟩ := H
                have p108 : 0 ≤ (x7_1 : Int) := of_decide_eq_true (by first | (with_reducible assumption) | assumption)
                have q108 : x7_1 < (t105.length : Int) := of_decide_eq_true (by first | (with_reducible assumption) | assumption)
                obtain ⟨ad108, e108, hx108_0, hx108_1, hx108_2, hx108_3⟩ := at_T52 (Kd.R_reads' HO_5.out).2.2 x7_1 p108 q108
                cases e108
                replace p108 := eq_true p108
                replace q108 := eq_true q108
                go_wp2_with (first | ((with_reducible refine gate_dst (N := 4) rfl ?_); refine box_event ?hg (N := 4) ?hd (cs := #[.int .i64 0, .int .i64 0, .int .i64 0, .int .i64 0]) (t := 52) ?hr ?_; (case hd => rfl); (case hg => rfl); (case hr => first | (go_simp; done) | (go_simp; rfl)); intro gb109 hg w11 hbox hb; have n0_ := Aside0.mk (Kd.R_below (Kd.R_elderB (by (with_reducible repeat (first | apply Kd.R_alloc | apply Kd.R_drewN | apply Kd.R_drew)); exact HO_5.out) gb109 (Nat.le_of_eq hg.symm)) hb); have n1_ := Aside0.mk (blk_below (g := gb104) (o := .cells #[.int .i64 x105000_1, .int .i64 x105001_1] 47 (0, 0)) (by (with_reducible repeat (first | refine blk_drewN ?_ _ | refine blk_drew ?_ | refine blk_alloc ?_ _)); exact BK104.out) hb); have n2_ := Aside0.mk (below_step (by repeat (first | (with_reducible first | exact HB.out | apply below_alloc | apply pw_below_drewN | apply below_drew1 | refine below_set ?_ GE104.out) | exact HB.out)) hb); have n3_ := Aside0.mk (hbox); have n4_ := Aside0.mk ((by rw [hg]; exact (below_size (by repeat (first | (with_reducible first | exact HB.out | apply below_alloc | apply pw_below_drewN | apply below_drew1 | refine below_set ?_ GE104.out) | exact HB.out))) : w.heap.size ≤ gb109)); have n5_ := Aside0.mk ((by rw [hg]; exact (below_size (by repeat (first | (with_reducible first | exact HB.out | apply below_alloc | apply pw_below_drewN | apply below_drew1 | refine below_set ?_ GE104.out) | exact HB.out))) : w.heap.size ≤ gb109)); have n6_ := Aside0.mk ((by rw [hg]; exact Nat.ne_of_lt (blk_lt (g := gb104) (o := .cells #[.int .i64 x105000_1, .int .i64 x105001_1] 47 (0, 0)) (by (with_reducible repeat (first | refine blk_drewN ?_ _ | refine blk_drew ?_ | refine blk_alloc ?_ _)); exact BK104.out)) : gb104 ≠ gb109)); have n7_ := Aside0.mk ((by rw [hg]; exact Nat.ne_of_gt (blk_lt (g := gb104) (o := .cells #[.int .i64 x105000_1, .int .i64 x105001_1] 47 (0, 0)) (by (with_reducible repeat (first | refine blk_drewN ?_ _ | refine blk_drew ?_ | refine blk_alloc ?_ _)); exact BK104.out)) : gb109 ≠ gb104)); clear HO_5; clear BK104; clear HB; have HO_5 := n0_; have BK104 := n1_; have HB := n2_; have BK109 := n3_; have GW109 := n4_; have GE109 := n5_; have NB104_109 := n6_; have NB109_104 := n7_; clear n0_ n1_ n2_ n3_ n4_ n5_ n6_ n7_; clear hb hbox hg; have hnb12 := NB109_104.out; have hnc12 := NB104_109.out; have hcz13_0 : w11.cell? ⟨gb109, 0, none⟩ = some (.int .i64 0) := (blk_cell BK109.out 0).trans rfl; have hcz13_1 : w11.cell? ⟨gb109, 1, none⟩ = some (.int .i64 0) := (blk_cell BK109.out 1).trans rfl; have hcz13_2 : w11.cell? ⟨gb109, 2, none⟩ = some (.int .i64 0) := (blk_cell BK109.out 2).trans rfl; have hcz13_3 : w11.cell? ⟨gb109, 3, none⟩ = some (.int .i64 0) := (blk_cell BK109.out 3).trans rfl; have hfz13_0 := blk_frozen BK109.out 0; have hfz13_1 := blk_frozen BK109.out 1; have hfz13_2 := blk_frozen BK109.out 2; have hfz13_3 := blk_frozen BK109.out 3; have hcz14_0 : w11.cell? ⟨gb104, 0, none⟩ = some (.int .i64 x105000_1) := (blk_cell BK104.out 0).trans rfl; have hcz14_1 : w11.cell? ⟨gb104, 1, none⟩ = some (.int .i64 x105001_1) := (blk_cell BK104.out 1).trans rfl; have hfz14_0 := blk_frozen BK104.out 0; have hfz14_1 := blk_frozen BK104.out 1))
                refine bodyPost_ret (results_cell_row rfl _ _ gb104 47 #[.int .i64 ((rd_T52 t105 x7_1).f2.f0), .int .i64 ((rd_T52 t105 x7_1).f2.f1)] (0, 0) _ rfl (by (with_reducible repeat (first | refine blk_drewN ?_ _ | refine blk_drew ?_ | refine blk_alloc ?_ _)); refine blk_put (cs := #[.int .i64 ((rd_T52 t105 x7_1).f2.f0), .int .i64 x105001_1]) ?_ 1 _ rfl; (with_reducible repeat (first | refine blk_drewN ?_ _ | refine blk_drew ?_ | refine blk_alloc ?_ _)); refine blk_put (cs := #[.int .i64 x105000_1, .int .i64 x105001_1]) ?_ 0 _ rfl; (with_reducible repeat (first | refine blk_drewN ?_ _ | refine blk_drew ?_ | refine blk_alloc ?_ _)); refine blk_far ?_ NB104_109.out _; (with_reducible repeat (first | refine blk_drewN ?_ _ | refine blk_drew ?_ | refine blk_alloc ?_ _)); refine blk_far ?_ NB104_109.out _; (with_reducible repeat (first | refine blk_drewN ?_ _ | refine blk_drew ?_ | refine blk_alloc ?_ _)); refine blk_far ?_ NB104_109.out _; (with_reducible repeat (first | refine blk_drewN ?_ _ | refine blk_drew ?_ | refine blk_alloc ?_ _)); refine blk_far ?_ NB104_109.out _; (with_reducible repeat (first | refine blk_drewN ?_ _ | refine blk_drew ?_ | refine blk_alloc ?_ _)); exact BK104.out) Try.underlying47 rfl (by kernel_rfl)) rfl ?_
                exact ⟨by first | rfl | (simp [errW_none, errW_some] <;> rfl) | (simp [*, errW_none, errW_some] <;> rfl), by repeat (first | (with_reducible first | exact HB.out | apply below_alloc | apply pw_below_drewN | apply below_drew1 | refine below_set ?_ GE104.out | refine below_set ?_ GE109.out) | exact HB.out)⟩
              · rw [if_neg c10] at H
                have c10b0 : decide (a0 ≤ ((rd_T52 t105 x7_1).f1)) = false := decide_eq_false c10
                clear c10
                have H' := Aside0.mk H
                clear H
                have p108 : 0 ≤ (x7_1 : Int) := of_decide_eq_true (by first | (with_reducible assumption) | assumption)
                have q108 : x7_1 < (t105.length : Int) := of_decide_eq_true (by first | (with_reducible assumption) | assumption)
                obtain ⟨ad108, e108, hx108_0, hx108_1, hx108_2, hx108_3⟩ := at_T52 (Kd.R_reads' HO_5.out).2.2 x7_1 p108 q108
                cases e108
                replace p108 := eq_true p108
                replace q108 := eq_true q108
                go_wp2_with (first | ((with_reducible refine gate_dst (N := 4) rfl ?_); refine box_event ?hg (N := 4) ?hd (cs := #[.int .i64 0, .int .i64 0, .int .i64 0, .int .i64 0]) (t := 52) ?hr ?_; (case hd => rfl); (case hg => rfl); (case hr => first | (go_simp; done) | (go_simp; rfl)); intro gb109 hg w15 hbox hb; have n0_ := Aside0.mk (Kd.R_below (Kd.R_elderB (by (with_reducible repeat (first | apply Kd.R_alloc | apply Kd.R_drewN | apply Kd.R_drew)); exact HO_5.out) gb109 (Nat.le_of_eq hg.symm)) hb); have n1_ := Aside0.mk (blk_below (g := gb104) (o := .cells #[.int .i64 x105000_1, .int .i64 x105001_1] 47 (0, 0)) (by (with_reducible repeat (first | refine blk_drewN ?_ _ | refine blk_drew ?_ | refine blk_alloc ?_ _)); exact BK104.out) hb); have n2_ := Aside0.mk (below_step (by repeat (first | (with_reducible first | exact HB.out | apply below_alloc | apply pw_below_drewN | apply below_drew1 | refine below_set ?_ GE104.out) | exact HB.out)) hb); have n3_ := Aside0.mk (hbox); have n4_ := Aside0.mk ((by rw [hg]; exact (below_size (by repeat (first | (with_reducible first | exact HB.out | apply below_alloc | apply pw_below_drewN | apply below_drew1 | refine below_set ?_ GE104.out) | exact HB.out))) : w.heap.size ≤ gb109)); have n5_ := Aside0.mk ((by rw [hg]; exact (below_size (by repeat (first | (with_reducible first | exact HB.out | apply below_alloc | apply pw_below_drewN | apply below_drew1 | refine below_set ?_ GE104.out) | exact HB.out))) : w.heap.size ≤ gb109)); have n6_ := Aside0.mk ((by rw [hg]; exact Nat.ne_of_lt (blk_lt (g := gb104) (o := .cells #[.int .i64 x105000_1, .int .i64 x105001_1] 47 (0, 0)) (by (with_reducible repeat (first | refine blk_drewN ?_ _ | refine blk_drew ?_ | refine blk_alloc ?_ _)); exact BK104.out)) : gb104 ≠ gb109)); have n7_ := Aside0.mk ((by rw [hg]; exact Nat.ne_of_gt (blk_lt (g := gb104) (o := .cells #[.int .i64 x105000_1, .int .i64 x105001_1] 47 (0, 0)) (by (with_reducible repeat (first | refine blk_drewN ?_ _ | refine blk_drew ?_ | refine blk_alloc ?_ _)); exact BK104.out)) : gb109 ≠ gb104)); clear HO_5; clear BK104; clear HB; have HO_5 := n0_; have BK104 := n1_; have HB := n2_; have BK109 := n3_; have GW109 := n4_; have GE109 := n5_; have NB104_109 := n6_; have NB109_104 := n7_; clear n0_ n1_ n2_ n3_ n4_ n5_ n6_ n7_; clear hb hbox hg; have hnb16 := NB109_104.out; have hnc16 := NB104_109.out; have hcz17_0 : w15.cell? ⟨gb109, 0, none⟩ = some (.int .i64 0) := (blk_cell BK109.out 0).trans rfl; have hcz17_1 : w15.cell? ⟨gb109, 1, none⟩ = some (.int .i64 0) := (blk_cell BK109.out 1).trans rfl; have hcz17_2 : w15.cell? ⟨gb109, 2, none⟩ = some (.int .i64 0) := (blk_cell BK109.out 2).trans rfl; have hcz17_3 : w15.cell? ⟨gb109, 3, none⟩ = some (.int .i64 0) := (blk_cell BK109.out 3).trans rfl; have hfz17_0 := blk_frozen BK109.out 0; have hfz17_1 := blk_frozen BK109.out 1; have hfz17_2 := blk_frozen BK109.out 2; have hfz17_3 := blk_frozen BK109.out 3))
                go_roundg k1
                case measure => have := HK1.out; omega
                case rel => exact ⟨(wrap64 (x7_1 + 1)), (x105000_1), (x105001_1), (by first | rfl | (simp; done) | (simp [*]; done)), H', ⟨by have := HK1.out; omega⟩, ⟨by (with_reducible repeat (first | apply Kd.R_alloc | apply Kd.R_drewN | apply Kd.R_drew)); exact Kd.R_mono (Kd.R_far (p := ⟨gb109, 3, none⟩) (Kd.R_far (p := ⟨gb109, 2, none⟩) (Kd.R_far (p := ⟨gb109, 1, none⟩) (Kd.R_far (p := ⟨gb109, 0, none⟩) (Kd.R_mono HO_5.out (fun k_ hk => (⟨hk, hk.2⟩ : _ ∧ k_ ≠ gb109))) (fun _ hk => hk.2) (.int .i64 ((rd_T52 t105 x7_1).f0))) (fun _ hk => hk.2) (.int .i64 ((rd_T52 t105 x7_1).f1))) (fun _ hk => hk.2) (.int .i64 ((rd_T52 t105 x7_1).f2.f0))) (fun _ hk => hk.2) (.int .i64 ((rd_T52 t105 x7_1).f2.f1))) (fun _ hk => trivial)⟩, ⟨by (with_reducible repeat (first | refine blk_drewN ?_ _ | refine blk_drew ?_ | refine blk_alloc ?_ _)); refine blk_far ?_ NB104_109.out _; (with_reducible repeat (first | refine blk_drewN ?_ _ | refine blk_drew ?_ | refine blk_alloc ?_ _)); refine blk_far ?_ NB104_109.out _; (with_reducible repeat (first | refine blk_drewN ?_ _ | refine blk_drew ?_ | refine blk_alloc ?_ _)); refine blk_far ?_ NB104_109.out _; (with_reducible repeat (first | refine blk_drewN ?_ _ | refine blk_drew ?_ | refine blk_alloc ?_ _)); refine blk_far ?_ NB104_109.out _; (with_reducible repeat (first | refine blk_drewN ?_ _ | refine blk_drew ?_ | refine blk_alloc ?_ _)); exact BK104.out⟩, ⟨by repeat (first | (with_reducible first | exact HB.out | apply below_alloc | apply pw_below_drewN | apply below_drew1 | refine below_set ?_ GE104.out | refine below_set ?_ GE109.out) | exact HB.out)⟩⟩
            · rw [if_neg c9] at H
              have c9b0 : decide (((rd_T52 t105 x7_1).f0) ≤ a0) = false := decide_eq_false c9
              clear c9
              have H' := Aside0.mk H
              clear H
              have p108 : 0 ≤ (x7_1 : Int) := of_decide_eq_true (by first | (with_reducible assumption) | assumption)
              have q108 : x7_1 < (t105.length : Int) := of_decide_eq_true (by first | (with_reducible assumption) | assumption)
              obtain ⟨ad108, e108, hx108_0, hx108_1, hx108_2, hx108_3⟩ := at_T52 (Kd.R_reads' HO_5.out).2.2 x7_1 p108 q108
              cases e108
              replace p108 := eq_true p108
              replace q108 := eq_true q108
              go_wp2_with (first | ((with_reducible refine gate_dst (N := 4) rfl ?_); refine box_event ?hg (N := 4) ?hd (cs := #[.int .i64 0, .int .i64 0, .int .i64 0, .int .i64 0]) (t := 52) ?hr ?_; (case hd => rfl); (case hg => rfl); (case hr => first | (go_simp; done) | (go_simp; rfl)); intro gb109 hg w18 hbox hb; have n0_ := Aside0.mk (Kd.R_below (Kd.R_elderB (by (with_reducible repeat (first | apply Kd.R_alloc | apply Kd.R_drewN | apply Kd.R_drew)); exact HO_5.out) gb109 (Nat.le_of_eq hg.symm)) hb); have n1_ := Aside0.mk (blk_below (g := gb104) (o := .cells #[.int .i64 x105000_1, .int .i64 x105001_1] 47 (0, 0)) (by (with_reducible repeat (first | refine blk_drewN ?_ _ | refine blk_drew ?_ | refine blk_alloc ?_ _)); exact BK104.out) hb); have n2_ := Aside0.mk (below_step (by repeat (first | (with_reducible first | exact HB.out | apply below_alloc | apply pw_below_drewN | apply below_drew1 | refine below_set ?_ GE104.out) | exact HB.out)) hb); have n3_ := Aside0.mk (hbox); have n4_ := Aside0.mk ((by rw [hg]; exact (below_size (by repeat (first | (with_reducible first | exact HB.out | apply below_alloc | apply pw_below_drewN | apply below_drew1 | refine below_set ?_ GE104.out) | exact HB.out))) : w.heap.size ≤ gb109)); have n5_ := Aside0.mk ((by rw [hg]; exact (below_size (by repeat (first | (with_reducible first | exact HB.out | apply below_alloc | apply pw_below_drewN | apply below_drew1 | refine below_set ?_ GE104.out) | exact HB.out))) : w.heap.size ≤ gb109)); have n6_ := Aside0.mk ((by rw [hg]; exact Nat.ne_of_lt (blk_lt (g := gb104) (o := .cells #[.int .i64 x105000_1, .int .i64 x105001_1] 47 (0, 0)) (by (with_reducible repeat (first | refine blk_drewN ?_ _ | refine blk_drew ?_ | refine blk_alloc ?_ _)); exact BK104.out)) : gb104 ≠ gb109)); have n7_ := Aside0.mk ((by rw [hg]; exact Nat.ne_of_gt (blk_lt (g := gb104) (o := .cells #[.int .i64 x105000_1, .int .i64 x105001_1] 47 (0, 0)) (by (with_reducible repeat (first | refine blk_drewN ?_ _ | refine blk_drew ?_ | refine blk_alloc ?_ _)); exact BK104.out)) : gb109 ≠ gb104)); clear HO_5; clear BK104; clear HB; have HO_5 := n0_; have BK104 := n1_; have HB := n2_; have BK109 := n3_; have GW109 := n4_; have GE109 := n5_; have NB104_109 := n6_; have NB109_104 := n7_; clear n0_ n1_ n2_ n3_ n4_ n5_ n6_ n7_; clear hb hbox hg; have hnb19 := NB109_104.out; have hnc19 := NB104_109.out; have hcz20_0 : w18.cell? ⟨gb109, 0, none⟩ = some (.int .i64 0) := (blk_cell BK109.out 0).trans rfl; have hcz20_1 : w18.cell? ⟨gb109, 1, none⟩ = some (.int .i64 0) := (blk_cell BK109.out 1).trans rfl; have hcz20_2 : w18.cell? ⟨gb109, 2, none⟩ = some (.int .i64 0) := (blk_cell BK109.out 2).trans rfl; have hcz20_3 : w18.cell? ⟨gb109, 3, none⟩ = some (.int .i64 0) := (blk_cell BK109.out 3).trans rfl; have hfz20_0 := blk_frozen BK109.out 0; have hfz20_1 := blk_frozen BK109.out 1; have hfz20_2 := blk_frozen BK109.out 2; have hfz20_3 := blk_frozen BK109.out 3))
              go_roundg k1
              case measure => have := HK1.out; omega
              case rel => exact ⟨(wrap64 (x7_1 + 1)), (x105000_1), (x105001_1), (by first | rfl | (simp; done) | (simp [*]; done)), H', ⟨by have := HK1.out; omega⟩, ⟨by (with_reducible repeat (first | apply Kd.R_alloc | apply Kd.R_drewN | apply Kd.R_drew)); exact Kd.R_mono (Kd.R_far (p := ⟨gb109, 3, none⟩) (Kd.R_far (p := ⟨gb109, 2, none⟩) (Kd.R_far (p := ⟨gb109, 1, none⟩) (Kd.R_far (p := ⟨gb109, 0, none⟩) (Kd.R_mono HO_5.out (fun k_ hk => (⟨hk, hk.2⟩ : _ ∧ k_ ≠ gb109))) (fun _ hk => hk.2) (.int .i64 ((rd_T52 t105 x7_1).f0))) (fun _ hk => hk.2) (.int .i64 ((rd_T52 t105 x7_1).f1))) (fun _ hk => hk.2) (.int .i64 ((rd_T52 t105 x7_1).f2.f0))) (fun _ hk => hk.2) (.int .i64 ((rd_T52 t105 x7_1).f2.f1))) (fun _ hk => trivial)⟩, ⟨by (with_reducible repeat (first | refine blk_drewN ?_ _ | refine blk_drew ?_ | refine blk_alloc ?_ _)); refine blk_far ?_ NB104_109.out _; (with_reducible repeat (first | refine blk_drewN ?_ _ | refine blk_drew ?_ | refine blk_alloc ?_ _)); refine blk_far ?_ NB104_109.out _; (with_reducible repeat (first | refine blk_drewN ?_ _ | refine blk_drew ?_ | refine blk_alloc ?_ _)); refine blk_far ?_ NB104_109.out _; (with_reducible repeat (first | refine blk_drewN ?_ _ | refine blk_drew ?_ | refine blk_alloc ?_ _)); refine blk_far ?_ NB104_109.out _; (with_reducible repeat (first | refine blk_drewN ?_ _ | refine blk_drew ?_ | refine blk_alloc ?_ _)); exact BK104.out⟩, ⟨by repeat (first | (with_reducible first | exact HB.out | apply below_alloc | apply pw_below_drewN | apply below_drew1 | refine below_set ?_ GE104.out | refine below_set ?_ GE109.out) | exact HB.out)⟩⟩
          · rw [if_neg c8] at H
            exact absurd H (by simp)
        · rw [if_neg c7] at H
          exact absurd H (by simp)
      · rw [if_neg c6] at H
        have c6b0 : decide (x7_1 < (t105.length : Int)) = false := decide_eq_false c6
        clear c6
        simp only [Option.some.injEq, Prod.mk.injEq] at H
        obtain ⟨rfl, rfl⟩ := H
        have hcz21_0 : wr.cell? ⟨gb104, 0, none⟩ = some (.int .i64 x105000_1) := (blk_cell BK104.out 0).trans rfl
        have hcz21_1 : wr.cell? ⟨gb104, 1, none⟩ = some (.int .i64 x105001_1) := (blk_cell BK104.out 1).trans rfl
        have hfz21_0 := blk_frozen BK104.out 0
        have hfz21_1 := blk_frozen BK104.out 1
        go_wp2
        refine bodyPost_ret (results_cell_row rfl _ _ gb104 47 #[.int .i64 0, .int .i64 0] (0, 0) _ rfl (by (with_reducible repeat (first | refine blk_drewN ?_ _ | refine blk_drew ?_ | refine blk_alloc ?_ _)); refine blk_put (cs := #[.int .i64 0, .int .i64 x105001_1]) ?_ 1 _ rfl; (with_reducible repeat (first | refine blk_drewN ?_ _ | refine blk_drew ?_ | refine blk_alloc ?_ _)); refine blk_put (cs := #[.int .i64 x105000_1, .int .i64 x105001_1]) ?_ 0 _ rfl; (with_reducible repeat (first | refine blk_drewN ?_ _ | refine blk_drew ?_ | refine blk_alloc ?_ _)); exact BK104.out) Try.underlying47 rfl (by kernel_rfl)) rfl ?_
        exact ⟨by first | rfl | (simp [errW_none, errW_some] <;> rfl) | (simp [*, errW_none, errW_some] <;> rfl), by repeat (first | (with_reducible first | exact HB.out | apply below_alloc | apply pw_below_drewN | apply below_drew1 | refine below_set ?_ GE104.out) | exact HB.out)⟩

/-! ### chars_Class: function 19 -/
def chars_Class.f (k : Nat) (a0 : Int) : Option (Int) := (chars_of.f k a0).bind fun bt110 => (some bt110.1)
theorem chars_Class.mono : ∀ a0 k, LeO (chars_Class.f k a0) (chars_Class.f (k + 1) a0) := by
  intro a0 k
  unfold chars_Class.f
  repeat' first
      | (with_reducible exact chars_of.mono _ _)
      | (with_reducible exact LeO.refl _)
      | (with_reducible exact LeO.none _)
      | (with_reducible refine LeO.ite ?_ ?_)
      | (with_reducible refine LeO.bind ?_ (fun _ => ?_))
      | exact chars_of.mono _ _
      | exact LeO.none _
      | refine LeO.ite ?_ ?_
      | refine LeO.bind ?_ (fun _ => ?_)
set_option maxHeartbeats 8000000 in
set_option maxRecDepth 100000 in
theorem chars_Class.calls (k : Nat) (a0 : Int) (r : Int) (w : World) (h : chars_Class.f k a0 = some r) :
    Calls Try.prog 19 #[.int .i64 a0] w fun e w' => e = .returned (.int .i64 r) ∧ Below w.heap.size w w' := by
  have hfd47_0 : ∀ (x0_ x1_ : Value) (w_ : World), (Instr.field 47 (.agg #[x0_, x1_]) 0).run Try.prog w_ = .ok (x0_) w_ := fun _ _ _ => by kernel_rfl
  have HB := Aside0.mk (Below.refl w.heap.size w)
  have H : ((chars_of.f k a0).bind fun bt110 => (some bt110.1)) = some r := h
  clear h
  replace H := Option.bind_eq_some_iff.mp H
  obtain ⟨⟨t110, t111⟩, A20, H⟩ := H
  replace H : (some t110) = some r := H
  have A2 := Aside0.mk A20
  clear A20
  obtain rfl := Option.some.inj H
  go_enter Try.func19, Try.ntmps19
  go_wp2_with (first | ((with_reducible refine gate_callee (f := 27) rfl ?_); refine goesL_ (some 4) rfl rfl Try.func27 (by kernel_rfl) rfl #[.int .i64 a0] rfl (by (try simp only [List.map_toArray, List.map_cons, List.map_nil]); first | done | rfl | (simp only [List.length_drop, List.length_take]; rfl)) ?_; (with_reducible refine (chars_of.calls k a0 t110 t111 _ A2.out).mono ?_); rintro e w3 ⟨rfl, hb⟩; refine ⟨_, rfl, ?_⟩; have n0_ := Aside0.mk (below_step (by repeat (first | (with_reducible first | exact HB.out | apply below_alloc | apply pw_below_drewN | apply below_drew1) | exact HB.out)) hb); clear HB; have HB := n0_; clear n0_; (try clear hb); (try clear hb2); (try clear hk); (try clear hi)))
  go_ret
  exact ⟨by first | rfl | (simp [errW_none, errW_some] <;> rfl) | (simp [*, errW_none, errW_some] <;> rfl), by repeat (first | (with_reducible first | exact HB.out | apply below_alloc | apply pw_below_drewN | apply below_drew1) | exact HB.out)⟩

/-! ### chars_Extends: function 20 -/
def chars_Extends.f (k : Nat) (a0 : Int) : Option (Bool) := (chars_Class.f k a0).bind fun t112 => (if t112 = 6 then (some true) else (if t112 = 10 then (some true) else (if t112 = 11 then (some true) else (if t112 = 12 then (some true) else (if t112 = 13 then (some true) else (if t112 = 14 then (some true) else (some false)))))))
theorem chars_Extends.mono : ∀ a0 k, LeO (chars_Extends.f k a0) (chars_Extends.f (k + 1) a0) := by
  intro a0 k
  unfold chars_Extends.f
  repeat' first
      | (with_reducible exact chars_Class.mono _ _)
      | (with_reducible exact LeO.refl _)
      | (with_reducible exact LeO.none _)
      | (with_reducible refine LeO.ite ?_ ?_)
      | (with_reducible refine LeO.bind ?_ (fun _ => ?_))
      | exact chars_Class.mono _ _
      | exact LeO.none _
      | refine LeO.ite ?_ ?_
      | refine LeO.bind ?_ (fun _ => ?_)
set_option maxHeartbeats 8000000 in
set_option maxRecDepth 100000 in
theorem chars_Extends.calls (k : Nat) (a0 : Int) (r : Bool) (w : World) (h : chars_Extends.f k a0 = some r) :
    Calls Try.prog 20 #[.int .i64 a0] w fun e w' => e = .returned (.bool r) ∧ Below w.heap.size w w' := by
  have HB := Aside0.mk (Below.refl w.heap.size w)
  have H : ((chars_Class.f k a0).bind fun t112 => (if t112 = 6 then (some true) else (if t112 = 10 then (some true) else (if t112 = 11 then (some true) else (if t112 = 12 then (some true) else (if t112 = 13 then (some true) else (if t112 = 14 then (some true) else (some false)))))))) = some r := h
  clear h
  replace H := Option.bind_eq_some_iff.mp H
  obtain ⟨t112, A20, H⟩ := H
  replace H : (if t112 = 6 then (some true) else (if t112 = 10 then (some true) else (if t112 = 11 then (some true) else (if t112 = 12 then (some true) else (if t112 = 13 then (some true) else (if t112 = 14 then (some true) else (some false))))))) = some r := H
  have A2 := Aside0.mk A20
  clear A20
  by_cases c3 : t112 = 6
  · rw [if_pos c3] at H
    have c3b0 : (t112 == 6) = true := beq_iff_eq.mpr c3
    have c3b1 : (t112 != 6) = false := bne_eq_false_iff_eq.mpr c3
    clear c3
    obtain rfl := Option.some.inj H
    go_enter Try.func20, Try.ntmps20
    go_wp2_with (first | ((with_reducible refine gate_callee (f := 19) rfl ?_); refine goesL_ (some 4) rfl rfl Try.func19 (by kernel_rfl) rfl #[.int .i64 a0] rfl (by (try simp only [List.map_toArray, List.map_cons, List.map_nil]); first | done | rfl | (simp only [List.length_drop, List.length_take]; rfl)) ?_; (with_reducible refine (chars_Class.calls k a0 t112 _ A2.out).mono ?_); rintro e w4 ⟨rfl, hb⟩; refine ⟨_, rfl, ?_⟩; have n0_ := Aside0.mk (below_step (by repeat (first | (with_reducible first | exact HB.out | apply below_alloc | apply pw_below_drewN | apply below_drew1) | exact HB.out)) hb); clear HB; have HB := n0_; clear n0_; (try clear hb); (try clear hb2); (try clear hk); (try clear hi)))
    go_ret
    exact ⟨by first | rfl | (simp [errW_none, errW_some] <;> rfl) | (simp [*, errW_none, errW_some] <;> rfl), by repeat (first | (with_reducible first | exact HB.out | apply below_alloc | apply pw_below_drewN | apply below_drew1) | exact HB.out)⟩
  · rw [if_neg c3] at H
    have c3b0 : (t112 == 6) = false := beq_eq_false_iff_ne.mpr c3
    have c3b1 : (t112 != 6) = true := bne_iff_ne.mpr c3
    by_cases c5 : t112 = 10
    · rw [if_pos c5] at H
      have c5b0 : (t112 == 10) = true := beq_iff_eq.mpr c5
      have c5b1 : (t112 != 10) = false := bne_eq_false_iff_eq.mpr c5
      clear c5
      obtain rfl := Option.some.inj H
      go_enter Try.func20, Try.ntmps20
      go_wp2_with (first | ((with_reducible refine gate_callee (f := 19) rfl ?_); refine goesL_ (some 4) rfl rfl Try.func19 (by kernel_rfl) rfl #[.int .i64 a0] rfl (by (try simp only [List.map_toArray, List.map_cons, List.map_nil]); first | done | rfl | (simp only [List.length_drop, List.length_take]; rfl)) ?_; (with_reducible refine (chars_Class.calls k a0 t112 _ A2.out).mono ?_); rintro e w6 ⟨rfl, hb⟩; refine ⟨_, rfl, ?_⟩; have n0_ := Aside0.mk (below_step (by repeat (first | (with_reducible first | exact HB.out | apply below_alloc | apply pw_below_drewN | apply below_drew1) | exact HB.out)) hb); clear HB; have HB := n0_; clear n0_; (try clear hb); (try clear hb2); (try clear hk); (try clear hi)))
      go_ret
      exact ⟨by first | rfl | (simp [errW_none, errW_some] <;> rfl) | (simp [*, errW_none, errW_some] <;> rfl), by repeat (first | (with_reducible first | exact HB.out | apply below_alloc | apply pw_below_drewN | apply below_drew1) | exact HB.out)⟩
    · rw [if_neg c5] at H
      have c5b0 : (t112 == 10) = false := beq_eq_false_iff_ne.mpr c5
      have c5b1 : (t112 != 10) = true := bne_iff_ne.mpr c5
      by_cases c7 : t112 = 11
      · rw [if_pos c7] at H
        have c7b0 : (t112 == 11) = true := beq_iff_eq.mpr c7
        have c7b1 : (t112 != 11) = false := bne_eq_false_iff_eq.mpr c7
        clear c7
        obtain rfl := Option.some.inj H
        go_enter Try.func20, Try.ntmps20
        go_wp2_with (first | ((with_reducible refine gate_callee (f := 19) rfl ?_); refine goesL_ (some 4) rfl rfl Try.func19 (by kernel_rfl) rfl #[.int .i64 a0] rfl (by (try simp only [List.map_toArray, List.map_cons, List.map_nil]); first | done | rfl | (simp only [List.length_drop, List.length_take]; rfl)) ?_; (with_reducible refine (chars_Class.calls k a0 t112 _ A2.out).mono ?_); rintro e w8 ⟨rfl, hb⟩; refine ⟨_, rfl, ?_⟩; have n0_ := Aside0.mk (below_step (by repeat (first | (with_reducible first | exact HB.out | apply below_alloc | apply pw_below_drewN | apply below_drew1) | exact HB.out)) hb); clear HB; have HB := n0_; clear n0_; (try clear hb); (try clear hb2); (try clear hk); (try clear hi)))
        go_ret
        exact ⟨by first | rfl | (simp [errW_none, errW_some] <;> rfl) | (simp [*, errW_none, errW_some] <;> rfl), by repeat (first | (with_reducible first | exact HB.out | apply below_alloc | apply pw_below_drewN | apply below_drew1) | exact HB.out)⟩
      · rw [if_neg c7] at H
        have c7b0 : (t112 == 11) = false := beq_eq_false_iff_ne.mpr c7
        have c7b1 : (t112 != 11) = true := bne_iff_ne.mpr c7
        by_cases c9 : t112 = 12
        · rw [if_pos c9] at H
          have c9b0 : (t112 == 12) = true := beq_iff_eq.mpr c9
          have c9b1 : (t112 != 12) = false := bne_eq_false_iff_eq.mpr c9
          clear c9
          obtain rfl := Option.some.inj H
          go_enter Try.func20, Try.ntmps20
          go_wp2_with (first | ((with_reducible refine gate_callee (f := 19) rfl ?_); refine goesL_ (some 4) rfl rfl Try.func19 (by kernel_rfl) rfl #[.int .i64 a0] rfl (by (try simp only [List.map_toArray, List.map_cons, List.map_nil]); first | done | rfl | (simp only [List.length_drop, List.length_take]; rfl)) ?_; (with_reducible refine (chars_Class.calls k a0 t112 _ A2.out).mono ?_); rintro e w10 ⟨rfl, hb⟩; refine ⟨_, rfl, ?_⟩; have n0_ := Aside0.mk (below_step (by repeat (first | (with_reducible first | exact HB.out | apply below_alloc | apply pw_below_drewN | apply below_drew1) | exact HB.out)) hb); clear HB; have HB := n0_; clear n0_; (try clear hb); (try clear hb2); (try clear hk); (try clear hi)))
          go_ret
          exact ⟨by first | rfl | (simp [errW_none, errW_some] <;> rfl) | (simp [*, errW_none, errW_some] <;> rfl), by repeat (first | (with_reducible first | exact HB.out | apply below_alloc | apply pw_below_drewN | apply below_drew1) | exact HB.out)⟩
        · rw [if_neg c9] at H
          have c9b0 : (t112 == 12) = false := beq_eq_false_iff_ne.mpr c9
          have c9b1 : (t112 != 12) = true := bne_iff_ne.mpr c9
          by_cases c11 : t112 = 13
          · rw [if_pos c11] at H
            have c11b0 : (t112 == 13) = true := beq_iff_eq.mpr c11
            have c11b1 : (t112 != 13) = false := bne_eq_false_iff_eq.mpr c11
            clear c11
            obtain rfl := Option.some.inj H
            go_enter Try.func20, Try.ntmps20
            go_wp2_with (first | ((with_reducible refine gate_callee (f := 19) rfl ?_); refine goesL_ (some 4) rfl rfl Try.func19 (by kernel_rfl) rfl #[.int .i64 a0] rfl (by (try simp only [List.map_toArray, List.map_cons, List.map_nil]); first | done | rfl | (simp only [List.length_drop, List.length_take]; rfl)) ?_; (with_reducible refine (chars_Class.calls k a0 t112 _ A2.out).mono ?_); rintro e w12 ⟨rfl, hb⟩; refine ⟨_, rfl, ?_⟩; have n0_ := Aside0.mk (below_step (by repeat (first | (with_reducible first | exact HB.out | apply below_alloc | apply pw_below_drewN | apply below_drew1) | exact HB.out)) hb); clear HB; have HB := n0_; clear n0_; (try clear hb); (try clear hb2); (try clear hk); (try clear hi)))
            go_ret
            exact ⟨by first | rfl | (simp [errW_none, errW_some] <;> rfl) | (simp [*, errW_none, errW_some] <;> rfl), by repeat (first | (with_reducible first | exact HB.out | apply below_alloc | apply pw_below_drewN | apply below_drew1) | exact HB.out)⟩
          · rw [if_neg c11] at H
            have c11b0 : (t112 == 13) = false := beq_eq_false_iff_ne.mpr c11
            have c11b1 : (t112 != 13) = true := bne_iff_ne.mpr c11
            by_cases c13 : t112 = 14
            · rw [if_pos c13] at H
              have c13b0 : (t112 == 14) = true := beq_iff_eq.mpr c13
              have c13b1 : (t112 != 14) = false := bne_eq_false_iff_eq.mpr c13
              clear c13
              obtain rfl := Option.some.inj H
              go_enter Try.func20, Try.ntmps20
              go_wp2_with (first | ((with_reducible refine gate_callee (f := 19) rfl ?_); refine goesL_ (some 4) rfl rfl Try.func19 (by kernel_rfl) rfl #[.int .i64 a0] rfl (by (try simp only [List.map_toArray, List.map_cons, List.map_nil]); first | done | rfl | (simp only [List.length_drop, List.length_take]; rfl)) ?_; (with_reducible refine (chars_Class.calls k a0 t112 _ A2.out).mono ?_); rintro e w14 ⟨rfl, hb⟩; refine ⟨_, rfl, ?_⟩; have n0_ := Aside0.mk (below_step (by repeat (first | (with_reducible first | exact HB.out | apply below_alloc | apply pw_below_drewN | apply below_drew1) | exact HB.out)) hb); clear HB; have HB := n0_; clear n0_; (try clear hb); (try clear hb2); (try clear hk); (try clear hi)))
              go_ret
              exact ⟨by first | rfl | (simp [errW_none, errW_some] <;> rfl) | (simp [*, errW_none, errW_some] <;> rfl), by repeat (first | (with_reducible first | exact HB.out | apply below_alloc | apply pw_below_drewN | apply below_drew1) | exact HB.out)⟩
            · rw [if_neg c13] at H
              have c13b0 : (t112 == 14) = false := beq_eq_false_iff_ne.mpr c13
              have c13b1 : (t112 != 14) = true := bne_iff_ne.mpr c13
              obtain rfl := Option.some.inj H
              go_enter Try.func20, Try.ntmps20
              go_wp2_with (first | ((with_reducible refine gate_callee (f := 19) rfl ?_); refine goesL_ (some 4) rfl rfl Try.func19 (by kernel_rfl) rfl #[.int .i64 a0] rfl (by (try simp only [List.map_toArray, List.map_cons, List.map_nil]); first | done | rfl | (simp only [List.length_drop, List.length_take]; rfl)) ?_; (with_reducible refine (chars_Class.calls k a0 t112 _ A2.out).mono ?_); rintro e w15 ⟨rfl, hb⟩; refine ⟨_, rfl, ?_⟩; have n0_ := Aside0.mk (below_step (by repeat (first | (with_reducible first | exact HB.out | apply below_alloc | apply pw_below_drewN | apply below_drew1) | exact HB.out)) hb); clear HB; have HB := n0_; clear n0_; (try clear hb); (try clear hb2); (try clear hk); (try clear hi)))
              go_ret
              exact ⟨by first | rfl | (simp [errW_none, errW_some] <;> rfl) | (simp [*, errW_none, errW_some] <;> rfl), by repeat (first | (with_reducible first | exact HB.out | apply below_alloc | apply pw_below_drewN | apply below_drew1) | exact HB.out)⟩

-- NOT PRINTED: function 22 (cluster_starts)

end Go.Proofs.Ytngdddgoplmlbaa.Q

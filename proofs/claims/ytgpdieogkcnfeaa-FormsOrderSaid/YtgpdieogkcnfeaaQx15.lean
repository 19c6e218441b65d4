-- Written by wip/tools/myprint.py, a program of this session that drives the kit's print.py; not a text of print.sh.
import Derived.Test.YtgpdieogkcnfeaaQx0
import Derived.Test.YtgpdieogkcnfeaaQx2
import Derived.Test.YtgpdieogkcnfeaaQx3
import Derived.Test.YtgpdieogkcnfeaaQx7
import Derived.Test.YtgpdieogkcnfeaaQx9
import Derived.Test.YtgpdieogkcnfeaaQx14
namespace Go.Proofs.Ytgpdieogkcnfeaa.Q
open Go.RowKit Go.Proofs.YtgpdieogkcnfeaaW.PrintWords Go.Proofs.YtgpdieogkcnfeaaW.PrintLast Go.Proofs.YtgpdieogkcnfeaaW.PrintMore
attribute [local go_sem] max2_int min2_int max_two min_two max_three min_three max_four min_four   -- for this text's walks alone
set_option linter.unusedVariables false
set_option linter.unusedSimpArgs false

/-! ### abugidalaw17_FormsOrder: function 4 -/
def abugidalaw17_FormsOrder.l0 : Nat → Bool → ByteArray → List (S29) → Int → Option (Bool)
  | 0, _, _, _, _ => none
  | k + 1, x7, x8, x10, x11 => if x11 < (x10.length : Int) then (if 0 ≤ x11 then ((forms_Order.f k x8 ((rd_T29 x10 x11).f0) ((rd_T29 x10 x11).f1)).bind fun t366 => ((abugidaref17_Order.f k x8 ((rd_T29 x10 x11).f0) ((rd_T29 x10 x11).f1)).bind fun t370 => ((abugidalaw17_is.f k t366 t370).bind fun t373 => (if t373 = true then (abugidalaw17_FormsOrder.l0 k x7 x8 x10 (wrap64 (x11 + 1))) else (some false))))) else (none)) else (some x7)
def abugidalaw17_FormsOrder.f (k : Nat) (l0 : List Int) (a1 : ByteArray) (a2_0 : Int) (a2_1 : Int) : Option (Bool) := (abugidalaw17_sanity.f k).bind fun t353 => ((abugidaref05_Text.f k l0 60).bind fun t354 => (if 0 ≤ (mn (a1.size : Int) 100) then (if (mn (a1.size : Int) 100) ≤ (a1.size : Int) then (if t354.size + (a1.extract 0 ((mn (a1.size : Int) 100) : Int).toNat).size ≤ 9223372036854775807 then ((cluster_Split.f (t354 ++ (a1.extract 0 ((mn (a1.size : Int) 100) : Int).toNat))).bind fun t356 => ((some (([(⟨a2_0, a2_1⟩ : S29), (⟨Go.bits .and .i64 a2_0 7, wrap64 ((Go.bits .and .i64 a2_0 7) + (Go.bits .and .i64 a2_1 7))⟩ : S29)] : List (S29)) : List (S29))).bind fun y359 => (if t356.length + y359.length < 8796093022208 then (abugidalaw17_FormsOrder.l0 k t353 (t354 ++ (a1.extract 0 ((mn (a1.size : Int) 100) : Int).toNat)) (t356 ++ y359) 0) else (none)))) else (none)) else (none)) else (none)))
theorem abugidalaw17_FormsOrder.mono_l : ∀ k, (∀ y0 y1 y2 y3, LeO (abugidalaw17_FormsOrder.l0 k y0 y1 y2 y3) (abugidalaw17_FormsOrder.l0 (k + 1) y0 y1 y2 y3))
  | 0 => fun _ _ _ _ r h => by simp [abugidalaw17_FormsOrder.l0] at h
  | k + 1 => by
    have ih0 := abugidalaw17_FormsOrder.mono_l k
    · intro y0 y1 y2 y3
      unfold abugidalaw17_FormsOrder.l0
      repeat' first
      | (with_reducible exact ih0 _ _ _ _)
      | (with_reducible exact abugidalaw17_is.mono _ _ _)
      | (with_reducible exact abugidalaw17_sanity.mono _)
      | (with_reducible exact abugidaref05_Text.mono _ _ _)
      | (with_reducible exact abugidaref17_Order.mono _ _ _ _)
      | (with_reducible exact forms_Order.mono _ _ _ _)
      | (with_reducible exact LeO.refl _)
      | (with_reducible exact LeO.none _)
      | (with_reducible refine LeO.ite ?_ ?_)
      | (with_reducible refine LeO.bind ?_ (fun _ => ?_))
      | exact ih0 _ _ _ _
      | exact abugidalaw17_is.mono _ _ _
      | exact abugidalaw17_sanity.mono _
      | exact abugidaref05_Text.mono _ _ _
      | exact abugidaref17_Order.mono _ _ _ _
      | exact forms_Order.mono _ _ _ _
      | exact LeO.none _
      | refine LeO.ite ?_ ?_
      | refine LeO.bind ?_ (fun _ => ?_)
theorem abugidalaw17_FormsOrder.mono : ∀ a0 a1 a2 a3 k, LeO (abugidalaw17_FormsOrder.f k a0 a1 a2 a3) (abugidalaw17_FormsOrder.f (k + 1) a0 a1 a2 a3) := by
  intro a0 a1 a2 a3 k
  have ih0 := abugidalaw17_FormsOrder.mono_l k
  unfold abugidalaw17_FormsOrder.f
  repeat' first
      | (with_reducible exact ih0 _ _ _ _)
      | (with_reducible exact abugidalaw17_is.mono _ _ _)
      | (with_reducible exact abugidalaw17_sanity.mono _)
      | (with_reducible exact abugidaref05_Text.mono _ _ _)
      | (with_reducible exact abugidaref17_Order.mono _ _ _ _)
      | (with_reducible exact forms_Order.mono _ _ _ _)
      | (with_reducible exact LeO.refl _)
      | (with_reducible exact LeO.none _)
      | (with_reducible refine LeO.ite ?_ ?_)
      | (with_reducible refine LeO.bind ?_ (fun _ => ?_))
      | exact ih0 _ _ _ _
      | exact abugidalaw17_is.mono _ _ _
      | exact abugidalaw17_sanity.mono _
      | exact abugidaref05_Text.mono _ _ _
      | exact abugidaref17_Order.mono _ _ _ _
      | exact forms_Order.mono _ _ _ _
      | exact LeO.none _
      | refine LeO.ite ?_ ?_
      | refine LeO.bind ?_ (fun _ => ?_)
def abugidalaw17_FormsOrder.T2 : Bool × List (List Nat × List Nat) := (true, [([], []), ([0], [0]), ([], []), ([], []), ([3], [3]), ([4], [4]), ([2, 5], [2, 5]), ([1, 6], [1, 6]), ([7, 1, 0, 1, 2, 3, 4, 5, 6, 7], [7])])
def abugidalaw17_FormsOrder.B2 : List Nat := [0, 1, 0, 0, 8, 24, 60, 127, 255]
theorem abugidalaw17_FormsOrder.tab2 : rtab .any (opsOf Try.f4 2) = abugidalaw17_FormsOrder.T2 := by kernel_rfl
theorem abugidalaw17_FormsOrder.bits2 : waitsOk abugidalaw17_FormsOrder.T2.2 abugidalaw17_FormsOrder.B2 = true := by kernel_rfl
def abugidalaw17_FormsOrder.T8 : Bool × List (List Nat × List Nat) := (true, [([], []), ([], []), ([], []), ([1, 2], [1, 2]), ([3], [3]), ([0, 4], [0, 4]), ([], []), ([], []), ([], []), ([7, 8], [7, 8]), ([9], [9]), ([6, 10, 5], [6, 10]), ([5, 11, 11], [5, 11]), ([12], [12])])
def abugidalaw17_FormsOrder.B8 : List Nat := [0, 0, 0, 6, 14, 31, 0, 0, 0, 384, 896, 2047, 4095, 8191]
theorem abugidalaw17_FormsOrder.tab8 : rtab .any (opsOf Try.f4 8) = abugidalaw17_FormsOrder.T8 := by kernel_rfl
theorem abugidalaw17_FormsOrder.bits8 : waitsOk abugidalaw17_FormsOrder.T8.2 abugidalaw17_FormsOrder.B8 = true := by kernel_rfl
set_option maxHeartbeats 8000000 in
set_option maxRecDepth 100000 in
theorem abugidalaw17_FormsOrder.calls (k : Nat) (A0 : Option Addr) (c0 : Nat) (l0 : List Int) (a1 : ByteArray) (a2_0 : Int) (a2_1 : Int) (r : Bool) (w : World) (hr0 : Kd.C (Kd.int .i64) w A0 l0.length l0) (hc0 : l0.length ≤ c0) (h : abugidalaw17_FormsOrder.f k l0 a1 a2_0 a2_1 = some r) :
    Calls Try.prog 4 #[.slice A0 l0.length c0, .string a1, .agg #[.int .i64 a2_0, .int .i64 a2_1]] w fun e w' => e = .returned (.bool r) ∧ Below w.heap.size w w' := by
  have hu29 := Try.underlying29
  have HR0 := Aside0.mk hr0
  have HC0 := Aside0.mk hc0
  clear hr0 hc0
  have HB := Aside0.mk (Below.refl w.heap.size w)
  have H : ((abugidalaw17_sanity.f k).bind fun t353 => ((abugidaref05_Text.f k l0 60).bind fun t354 => (if 0 ≤ (mn (a1.size : Int) 100) then (if (mn (a1.size : Int) 100) ≤ (a1.size : Int) then (if t354.size + (a1.extract 0 ((mn (a1.size : Int) 100) : Int).toNat).size ≤ 9223372036854775807 then ((cluster_Split.f (t354 ++ (a1.extract 0 ((mn (a1.size : Int) 100) : Int).toNat))).bind fun t356 => ((some (([(⟨a2_0, a2_1⟩ : S29), (⟨Go.bits .and .i64 a2_0 7, wrap64 ((Go.bits .and .i64 a2_0 7) + (Go.bits .and .i64 a2_1 7))⟩ : S29)] : List (S29)) : List (S29))).bind fun y359 => (if t356.length + y359.length < 8796093022208 then (abugidalaw17_FormsOrder.l0 k t353 (t354 ++ (a1.extract 0 ((mn (a1.size : Int) 100) : Int).toNat)) (t356 ++ y359) 0) else (none)))) else (none)) else (none)) else (none)))) = some r := h
  clear h
  replace H := Option.bind_eq_some_iff.mp H
  obtain ⟨t353, A40, H⟩ := H
  replace H : ((abugidaref05_Text.f k l0 60).bind fun t354 => (if 0 ≤ (mn (a1.size : Int) 100) then (if (mn (a1.size : Int) 100) ≤ (a1.size : Int) then (if t354.size + (a1.extract 0 ((mn (a1.size : Int) 100) : Int).toNat).size ≤ 9223372036854775807 then ((cluster_Split.f (t354 ++ (a1.extract 0 ((mn (a1.size : Int) 100) : Int).toNat))).bind fun t356 => ((some (([(⟨a2_0, a2_1⟩ : S29), (⟨Go.bits .and .i64 a2_0 7, wrap64 ((Go.bits .and .i64 a2_0 7) + (Go.bits .and .i64 a2_1 7))⟩ : S29)] : List (S29)) : List (S29))).bind fun y359 => (if t356.length + y359.length < 8796093022208 then (abugidalaw17_FormsOrder.l0 k t353 (t354 ++ (a1.extract 0 ((mn (a1.size : Int) 100) : Int).toNat)) (t356 ++ y359) 0) else (none)))) else (none)) else (none)) else (none))) = some r := H
  have A4 := Aside0.mk A40
  clear A40
  replace H := Option.bind_eq_some_iff.mp H
  obtain ⟨t354, A50, H⟩ := H
  replace H : (if 0 ≤ (mn (a1.size : Int) 100) then (if (mn (a1.size : Int) 100) ≤ (a1.size : Int) then (if t354.size + (a1.extract 0 ((mn (a1.size : Int) 100) : Int).toNat).size ≤ 9223372036854775807 then ((cluster_Split.f (t354 ++ (a1.extract 0 ((mn (a1.size : Int) 100) : Int).toNat))).bind fun t356 => ((some (([(⟨a2_0, a2_1⟩ : S29), (⟨Go.bits .and .i64 a2_0 7, wrap64 ((Go.bits .and .i64 a2_0 7) + (Go.bits .and .i64 a2_1 7))⟩ : S29)] : List (S29)) : List (S29))).bind fun y359 => (if t356.length + y359.length < 8796093022208 then (abugidalaw17_FormsOrder.l0 k t353 (t354 ++ (a1.extract 0 ((mn (a1.size : Int) 100) : Int).toNat)) (t356 ++ y359) 0) else (none)))) else (none)) else (none)) else (none)) = some r := H
  have A5 := Aside0.mk A50
  clear A50
  obtain ⟨ji6, hji6⟩ : ∃ j_ : Int, (mn (a1.size : Int) 100) = j_ := ⟨_, rfl⟩
  replace H : (if 0 ≤ (ji6) then (if (ji6) ≤ (a1.size : Int) then (if t354.size + (a1.extract 0 ((ji6) : Int).toNat).size ≤ 9223372036854775807 then ((cluster_Split.f (t354 ++ (a1.extract 0 ((ji6) : Int).toNat))).bind fun t356 => ((some (([(⟨a2_0, a2_1⟩ : S29), (⟨Go.bits .and .i64 a2_0 7, wrap64 ((Go.bits .and .i64 a2_0 7) + (Go.bits .and .i64 a2_1 7))⟩ : S29)] : List (S29)) : List (S29))).bind fun y359 => (if t356.length + y359.length < 8796093022208 then (abugidalaw17_FormsOrder.l0 k t353 (t354 ++ (a1.extract 0 ((ji6) : Int).toNat)) (t356 ++ y359) 0) else (none)))) else (none)) else (none)) else (none)) = some r := by first | (rw [hji6] at H; exact H) | (simp only [hji6] at H ⊢; exact H)
  (try rw [hji6] at A4)
  (try rw [hji6] at A5)
  (try (have hji6h : ji6 ≤ 100 := by (rw [← hji6]; unfold mn; (repeat' split) <;> omega)))
  (try (have hji6g : ji6 ≤ 64 := by omega))
  (try (have hji6l : 0 ≤ ji6 := by (rw [← hji6]; unfold mn; (repeat' split) <;> omega)))
  (try (have hji6m : 0 ≤ ji6 := by omega))
  have hji6_ : (if 100 < (a1.size : Int) then 100 else (a1.size : Int)) = ji6 := hji6
  by_cases c7 : 0 ≤ (ji6)
  · rw [if_pos c7] at H
    have c7b0 := eq_true c7
    have c7b1 : decide (0 ≤ (ji6)) = true := decide_eq_true c7
    clear c7
    by_cases c8 : (ji6) ≤ (a1.size : Int)
    · rw [if_pos c8] at H
      have c8b0 := eq_true c8
      have c8b1 : decide ((ji6) ≤ (a1.size : Int)) = true := decide_eq_true c8
      clear c8
      by_cases c9 : t354.size + (a1.extract 0 ((ji6) : Int).toNat).size ≤ 9223372036854775807
      · rw [if_pos c9] at H
        have c9b0 := eq_true c9
        have c9b1 : decide (t354.size + (a1.extract 0 ((ji6) : Int).toNat).size ≤ 9223372036854775807) = true := decide_eq_true c9
        try have c9b2 : (9223372036854775807 < t354.size + (a1.extract 0 ((ji6) : Int).toNat).size) = False := eq_false (Nat.not_lt.2 c9)
        have c9b3 : (9223372036854775807 < t354.size + (ji6 : Int).toNat) = False := eq_false (Nat.not_lt.2 (by have h_ := c9; rw [ByteArray.size_extract] at h_; have h1_ := of_eq_true c7b0; have h2_ := of_eq_true c8b0; omega))
        replace H := Option.bind_eq_some_iff.mp H
        obtain ⟨t356, A100, H⟩ := H
        replace H : ((some (([(⟨a2_0, a2_1⟩ : S29), (⟨Go.bits .and .i64 a2_0 7, wrap64 ((Go.bits .and .i64 a2_0 7) + (Go.bits .and .i64 a2_1 7))⟩ : S29)] : List (S29)) : List (S29))).bind fun y359 => (if t356.length + y359.length < 8796093022208 then (abugidalaw17_FormsOrder.l0 k t353 (t354 ++ (a1.extract 0 ((ji6) : Int).toNat)) (t356 ++ y359) 0) else (none))) = some r := H
        have A10 := Aside0.mk A100
        clear A100
        obtain ⟨y359, hy359⟩ : ∃ y_ : List (S29), y_ = (([(⟨a2_0, a2_1⟩ : S29), (⟨Go.bits .and .i64 a2_0 7, wrap64 ((Go.bits .and .i64 a2_0 7) + (Go.bits .and .i64 a2_1 7))⟩ : S29)] : List (S29))) := ⟨_, rfl⟩
        replace H : (if t356.length + y359.length < 8796093022208 then (abugidalaw17_FormsOrder.l0 k t353 (t354 ++ (a1.extract 0 ((ji6) : Int).toNat)) (t356 ++ y359) 0) else (none)) = some r := by first | (rw [hy359]; with_reducible exact H) | (have H2_ := (Option.bind_some _ _).symm.trans H; rw [hy359]; with_reducible exact H2_) | (have H2_ := (Option.bind_some _ _).symm.trans H; with_reducible exact H2_) | with_reducible exact H | (rw [hy359]; exact H) | exact H
        have Ny359 := Aside0.mk hy359
        clear hy359
        by_cases c11 : t356.length + y359.length < 8796093022208
        · rw [if_pos c11] at H
          have LMc11 := Aside0.mk c11
          clear c11
          obtain ⟨y362, hy362⟩ : ∃ y_ : List (S29), y_ = (t356 ++ y359) := ⟨_, rfl⟩
          replace H : (abugidalaw17_FormsOrder.l0 k t353 (t354 ++ (a1.extract 0 ((ji6) : Int).toNat)) y362 0) = some r := by first | (rw [hy362]; with_reducible exact H) | (have H2_ := (Option.bind_some _ _).symm.trans H; rw [hy362]; with_reducible exact H2_) | (have H2_ := (Option.bind_some _ _).symm.trans H; with_reducible exact H2_) | with_reducible exact H | (rw [hy362]; exact H) | exact H
          have Ny362 := Aside0.mk hy362
          clear hy362
          have H' := Aside0.mk H
          clear H
          go_enter Try.func4, Try.ntmps4
          try go_wp2_with (first | ((with_reducible refine gate_dst (N := 5) rfl ?_); refine box_event ?hg (N := 5) ?hd (cs := #[.int .i64 a2_0, .int .i64 a2_1]) (t := 29) ?hr ?_; (case hd => rfl); (case hg => rfl); (case hr => first | (go_simp; done) | (go_simp; rfl)); intro gb352 hg w12 hbox hb; have n0_ := Aside0.mk (below_step (by repeat (first | (with_reducible first | exact HB.out | apply below_alloc | apply pw_below_drewN | apply below_drew1) | exact HB.out)) hb); have n1_ := Aside0.mk (hbox); have n2_ := Aside0.mk ((by rw [hg]; exact (below_size (by repeat (first | (with_reducible first | exact HB.out | apply below_alloc | apply pw_below_drewN | apply below_drew1) | exact HB.out))) : w.heap.size ≤ gb352)); have n3_ := Aside0.mk ((by rw [hg]; exact (below_size (by repeat (first | (with_reducible first | exact HB.out | apply below_alloc | apply pw_below_drewN | apply below_drew1) | exact HB.out))) : w.heap.size ≤ gb352)); clear HB; have HB := n0_; have BK352 := n1_; have GW352 := n2_; have GE352 := n3_; clear n0_ n1_ n2_ n3_; clear hb hbox hg) | ((with_reducible refine gate_callee (f := 9) rfl ?_); refine goesL_ (some 12) rfl rfl Try.func9 (by kernel_rfl) rfl #[] rfl (by (try simp only [List.map_toArray, List.map_cons, List.map_nil]); first | done | rfl | (simp only [List.length_drop, List.length_take]; rfl)) ?_; (with_reducible refine (abugidalaw17_sanity.calls k  t353 _ A4.out).mono ?_); rintro e w13 ⟨rfl, hb⟩; refine ⟨_, rfl, ?_⟩; have n0_ := Aside0.mk (blk_below (g := gb352) (o := .cells #[.int .i64 a2_0, .int .i64 a2_1] 29 (0, 0)) (by (with_reducible repeat (first | refine blk_drewN ?_ _ | refine blk_drew ?_ | refine blk_alloc ?_ _)); exact BK352.out) hb); have n1_ := Aside0.mk (below_step (by repeat (first | (with_reducible first | exact HB.out | apply below_alloc | apply pw_below_drewN | apply below_drew1 | refine below_set ?_ GE352.out) | exact HB.out)) hb); clear BK352; clear HB; have BK352 := n0_; have HB := n1_; clear n0_ n1_; (try clear hb); (try clear hb2); (try clear hk); (try clear hi)))
          have n0_ := Aside0.mk (blk_drew BK352.out)
          have n1_ := Aside0.mk (below_drew1 HB.out)
          clear BK352
          clear HB
          have BK352 := n0_
          have HB := n1_
          clear n0_ n1_
          refine start_ (n := 9) (S := fun w' => True) (ds := []) #[false, false, false, false, false, false, false, false, false] (by kernel_rfl) rfl rfl trivial (fun hHeld => ?_); refine with_tabW abugidalaw17_FormsOrder.tab2 abugidalaw17_FormsOrder.bits2 (fun HT_ HW_ => ?_)
          generalize w13.drew = w14 at BK352 HB hHeld ⊢
          refine pure_ (i := 0) (N := some 13) (v := ?_) (a' := ?_) #[true, false, false, false, false, false, false, false, false] rfl rfl (any_of HT_.out (by kernel_rfl)) (fun _ _ _ h => h) (Or.inl ⟨by rfl, ?_⟩) ?_ ?_
          rotate_left
          · intro w'
            go_simp
            with_reducible rfl
          rotate_left
          · simp only [Act.put, List.setIfInBounds_toArray, List.set_cons_zero, List.set_cons_succ, i64_w, i32_w]
            rfl
          refine pure_ (i := 2) (N := some 15) (v := ?_) (a' := ?_) #[true, false, true, false, false, false, false, false, false] rfl rfl (any_of HT_.out (by kernel_rfl)) (fun _ _ _ h => h) (Or.inl ⟨by rfl, ?_⟩) ?_ ?_
          rotate_left
          · intro w'
            go_simp
            with_reducible rfl
          rotate_left
          · simp only [Act.put, List.setIfInBounds_toArray, List.set_cons_zero, List.set_cons_succ, i64_w, i32_w]
            rfl
          refine pure_ (i := 3) (N := some 16) (v := ?_) (a' := ?_) #[true, false, true, true, false, false, false, false, false] rfl rfl (any_of HT_.out (by kernel_rfl)) (fun _ _ _ h => h) (Or.inl ⟨by rfl, ?_⟩) ?_ ?_
          rotate_left
          · intro w'
            go_simp
            with_reducible rfl
          rotate_left
          · simp only [Act.put, List.setIfInBounds_toArray, List.set_cons_zero, List.set_cons_succ, i64_w, i32_w]
            rfl
          refine pure_ (i := 4) (N := some 17) (v := ?_) (a' := ?_) #[true, false, true, true, true, false, false, false, false] rfl rfl (any_of HT_.out (by kernel_rfl)) (fun _ _ _ h => h) (Or.inl ⟨by rfl, ?_⟩) ?_ ?_
          rotate_left
          · intro w'
            go_simp
            with_reducible rfl
          rotate_left
          · simp only [Act.put, List.setIfInBounds_toArray, List.set_cons_zero, List.set_cons_succ, i64_w, i32_w]
            rfl
          refine pure_ (i := 5) (N := some 18) (v := ?_) (a' := ?_) #[true, false, true, true, true, true, false, false, false] rfl rfl (any_of HT_.out (by kernel_rfl)) (fun _ _ _ h => h) (Or.inl ⟨by rfl, ?_⟩) ?_ ?_
          rotate_left
          · intro w'
            go_simp
            with_reducible rfl
          rotate_left
          · simp only [Act.put, List.setIfInBounds_toArray, List.set_cons_zero, List.set_cons_succ, i64_w, i32_w]
            rfl
          refine pure_ (i := 6) (N := some 19) (v := ?_) (a' := ?_) #[true, false, true, true, true, true, true, false, false] rfl rfl (any_of HT_.out (by kernel_rfl)) (fun _ _ _ h => h) (Or.inl ⟨by rfl, ?_⟩) ?_ ?_
          rotate_left
          · intro w'
            go_simp
            with_reducible rfl
          rotate_left
          · simp only [Act.put, List.setIfInBounds_toArray, List.set_cons_zero, List.set_cons_succ, i64_w, i32_w]
            rfl
          refine one_ (i := 1) (N := some 14) #[true, true, true, true, true, true, true, false, false] rfl rfl (one_of HT_.out (by kernel_rfl)) (by decide) (fun K hK => ?_)
          refine goes_ Try.func10 (by kernel_rfl) rfl #[.slice A0 l0.length c0, .int .i64 60] (by rfl) rfl rfl (by (try simp only [List.map_toArray, List.map_cons, List.map_nil]); first | done | rfl | (simp only [List.length_drop, List.length_take]; rfl)) ?_
          with_reducible refine (abugidaref05_Text.calls k _ _ l0 60 t354 _ ?side1 ?side2 A5.out).mono ?_
          (case side1 => repeat (first | exact (Kd.C_below HR0.out HB.out) | (with_reducible refine Kd.C_alloc ?_ _) | (with_reducible refine Kd.C_drewN ?_ _) | (with_reducible refine Kd.C_drew ?_)))
          (case side2 => exact HC0.out)
          rintro e w15 ⟨rfl, hb⟩
          refine ⟨_, rfl, ?_⟩
          have n0_ := Aside0.mk (blk_below (g := gb352) (o := .cells #[.int .i64 a2_0, .int .i64 a2_1] 29 (0, 0)) (by (with_reducible repeat (first | refine blk_drewN ?_ _ | refine blk_drew ?_ | refine blk_alloc ?_ _)); exact BK352.out) hb)
          have n1_ := Aside0.mk (below_step (by repeat (first | (with_reducible first | exact HB.out | apply below_alloc | apply pw_below_drewN | apply below_drew1 | refine below_set ?_ GE352.out) | exact HB.out)) hb)
          clear BK352
          clear HB
          have BK352 := n0_
          have HB := n1_
          clear n0_ n1_
          (try clear hb)
          (try clear hb2)
          (try clear hk)
          (try clear hi)
          refine hK.out _ _ trivial (fun hHeld => ?_)
          clear hK K
          refine norm_ (a' := ?_) ?_ ?_
          rotate_left
          · show Act.put _ (some 14) _ = _
            simp only [Act.put, List.setIfInBounds_toArray, List.set_cons_zero, List.set_cons_succ, i64_w, i32_w]
            rfl
          refine pure_ (i := 7) (N := some 20) (v := ?_) (a' := ?_) #[true, true, true, true, true, true, true, true, false] rfl rfl (any_of HT_.out (by kernel_rfl)) (fun _ _ _ h => h) (Or.inl ⟨by rfl, ?_⟩) ?_ ?_
          rotate_left
          · intro w'
            go_simp
            with_reducible rfl
          rotate_left
          · simp only [Act.put, List.setIfInBounds_toArray, List.set_cons_zero, List.set_cons_succ, i64_w, i32_w]
            rfl
          refine pure_ (i := 8) (N := some 8) (v := ?_) (a' := ?_) #[true, true, true, true, true, true, true, true, true] rfl rfl (any_of HT_.out (by kernel_rfl)) (fun _ _ _ h => h) (Or.inl ⟨by rfl, ?_⟩) ?_ ?_
          rotate_left
          · intro w'
            go_simp
            with_reducible rfl
          rotate_left
          · simp only [Act.put, List.setIfInBounds_toArray, List.set_cons_zero, List.set_cons_succ, i64_w, i32_w]
            rfl
          refine done_ (done_of HT_.out (by kernel_rfl)) ?_
          have hcz16_0 : w15.cell? ⟨gb352, 0, none⟩ = some (.int .i64 a2_0) := (blk_cell BK352.out 0).trans rfl
          have hcz16_1 : w15.cell? ⟨gb352, 1, none⟩ = some (.int .i64 a2_1) := (blk_cell BK352.out 1).trans rfl
          have hfz16_0 := blk_frozen BK352.out 0
          have hfz16_1 := blk_frozen BK352.out 1
          try go_wp2_with (first | ((with_reducible refine gate_dst (N := 9) rfl ?_); refine box_event ?hg (N := 9) ?hd (cs := #[.int .i64 0, .int .i64 0]) (t := 29) ?hr ?_; (case hd => rfl); (case hg => rfl); (case hr => first | (go_simp; done) | (go_simp; rfl)); intro gb355 hg w17 hbox hb; have n0_ := Aside0.mk (blk_below (g := gb352) (o := .cells #[.int .i64 a2_0, .int .i64 a2_1] 29 (0, 0)) (by (with_reducible repeat (first | refine blk_drewN ?_ _ | refine blk_drew ?_ | refine blk_alloc ?_ _)); exact BK352.out) hb); have n1_ := Aside0.mk (below_step (by repeat (first | (with_reducible first | exact HB.out | apply below_alloc | apply pw_below_drewN | apply below_drew1 | refine below_set ?_ GE352.out) | exact HB.out)) hb); have n2_ := Aside0.mk (hbox); have n3_ := Aside0.mk ((by rw [hg]; exact (below_size (by repeat (first | (with_reducible first | exact HB.out | apply below_alloc | apply pw_below_drewN | apply below_drew1 | refine below_set ?_ GE352.out) | exact HB.out))) : w.heap.size ≤ gb355)); have n4_ := Aside0.mk ((by rw [hg]; exact (below_size (by repeat (first | (with_reducible first | exact HB.out | apply below_alloc | apply pw_below_drewN | apply below_drew1 | refine below_set ?_ GE352.out) | exact HB.out))) : w.heap.size ≤ gb355)); have n5_ := Aside0.mk ((by rw [hg]; exact Nat.ne_of_lt (blk_lt (g := gb352) (o := .cells #[.int .i64 a2_0, .int .i64 a2_1] 29 (0, 0)) (by (with_reducible repeat (first | refine blk_drewN ?_ _ | refine blk_drew ?_ | refine blk_alloc ?_ _)); exact BK352.out)) : gb352 ≠ gb355)); have n6_ := Aside0.mk ((by rw [hg]; exact Nat.ne_of_gt (blk_lt (g := gb352) (o := .cells #[.int .i64 a2_0, .int .i64 a2_1] 29 (0, 0)) (by (with_reducible repeat (first | refine blk_drewN ?_ _ | refine blk_drew ?_ | refine blk_alloc ?_ _)); exact BK352.out)) : gb355 ≠ gb352)); clear BK352; clear HB; have BK352 := n0_; have HB := n1_; have BK355 := n2_; have GW355 := n3_; have GE355 := n4_; have NB352_355 := n5_; have NB355_352 := n6_; clear n0_ n1_ n2_ n3_ n4_ n5_ n6_; clear hb hbox hg; have hnb18 := NB355_352.out; have hnc18 := NB352_355.out; have hcz19_0 : w17.cell? ⟨gb355, 0, none⟩ = some (.int .i64 0) := (blk_cell BK355.out 0).trans rfl; have hcz19_1 : w17.cell? ⟨gb355, 1, none⟩ = some (.int .i64 0) := (blk_cell BK355.out 1).trans rfl; have hfz19_0 := blk_frozen BK355.out 0; have hfz19_1 := blk_frozen BK355.out 1))
          have n0_ : Aside0 (((w17.setCell ⟨gb355, 0, none⟩ (.int .i64 (Go.bits .and .i64 a2_0 7))).setCell ⟨gb355, 1, none⟩ (.int .i64 (wrap64 ((Go.bits .and .i64 a2_0 7) + (Go.bits .and .i64 a2_1 7))))).heap[gb352]? = some (.cells #[.int .i64 a2_0, .int .i64 a2_1] 29 (0, 0))) := ⟨by (with_reducible repeat (first | refine blk_drewN ?_ _ | refine blk_drew ?_ | refine blk_alloc ?_ _)); refine blk_far ?_ NB352_355.out _; (with_reducible repeat (first | refine blk_drewN ?_ _ | refine blk_drew ?_ | refine blk_alloc ?_ _)); refine blk_far ?_ NB352_355.out _; (with_reducible repeat (first | refine blk_drewN ?_ _ | refine blk_drew ?_ | refine blk_alloc ?_ _)); exact BK352.out⟩
          have n1_ : Aside0 (((w17.setCell ⟨gb355, 0, none⟩ (.int .i64 (Go.bits .and .i64 a2_0 7))).setCell ⟨gb355, 1, none⟩ (.int .i64 (wrap64 ((Go.bits .and .i64 a2_0 7) + (Go.bits .and .i64 a2_1 7))))).heap[gb355]? = some (.cells #[.int .i64 (Go.bits .and .i64 a2_0 7), .int .i64 (wrap64 ((Go.bits .and .i64 a2_0 7) + (Go.bits .and .i64 a2_1 7)))] 29 (0, 0))) := ⟨by (with_reducible repeat (first | refine blk_drewN ?_ _ | refine blk_drew ?_ | refine blk_alloc ?_ _)); refine blk_put (cs := #[.int .i64 (Go.bits .and .i64 a2_0 7), .int .i64 0]) ?_ 1 _ rfl; (with_reducible repeat (first | refine blk_drewN ?_ _ | refine blk_drew ?_ | refine blk_alloc ?_ _)); refine blk_put (cs := #[.int .i64 0, .int .i64 0]) ?_ 0 _ rfl; (with_reducible repeat (first | refine blk_drewN ?_ _ | refine blk_drew ?_ | refine blk_alloc ?_ _)); exact BK355.out⟩
          have n2_ : Aside0 (Below w.heap.size w ((w17.setCell ⟨gb355, 0, none⟩ (.int .i64 (Go.bits .and .i64 a2_0 7))).setCell ⟨gb355, 1, none⟩ (.int .i64 (wrap64 ((Go.bits .and .i64 a2_0 7) + (Go.bits .and .i64 a2_1 7)))))) := ⟨by repeat (first | (with_reducible first | exact HB.out | apply below_alloc | apply pw_below_drewN | apply below_drew1 | refine below_set ?_ GE352.out | refine below_set ?_ GE355.out) | exact HB.out)⟩
          (try clear BK352)
          (try clear BK355)
          (try clear HB)
          generalize ((w17.setCell ⟨gb355, 0, none⟩ (.int .i64 (Go.bits .and .i64 a2_0 7))).setCell ⟨gb355, 1, none⟩ (.int .i64 (wrap64 ((Go.bits .and .i64 a2_0 7) + (Go.bits .and .i64 a2_1 7))))) = w20 at n0_ n1_ n2_ ⊢
          have BK352 := n0_
          have BK355 := n1_
          have HB := n2_
          clear n0_ n1_ n2_
          have n0_ := Aside0.mk (blk_drew BK352.out)
          have n1_ := Aside0.mk (blk_drew BK355.out)
          have n2_ := Aside0.mk (below_drew1 HB.out)
          clear BK352
          clear BK355
          clear HB
          have BK352 := n0_
          have BK355 := n1_
          have HB := n2_
          clear n0_ n1_ n2_
          refine start_ (n := 7) (S := fun w' => w'.cell? ⟨gb352, 0, none⟩ = some (.int .i64 a2_0) ∧ w'.cell? ⟨gb352, 1, none⟩ = some (.int .i64 a2_1) ∧ w'.cell? ⟨gb355, 0, none⟩ = some (.int .i64 (Go.bits .and .i64 a2_0 7)) ∧ w'.cell? ⟨gb355, 1, none⟩ = some (.int .i64 (wrap64 ((Go.bits .and .i64 a2_0 7) + (Go.bits .and .i64 a2_1 7))))) (ds := []) #[false, false, false, false, false, false, false] (by kernel_rfl) rfl rfl ⟨(blk_cell BK352.out 0).trans rfl, (blk_cell BK352.out 1).trans rfl, (blk_cell BK355.out 0).trans rfl, (blk_cell BK355.out 1).trans rfl⟩ (fun hHeld => ?_)
          generalize w20.drew = w21 at BK352 BK355 HB hHeld ⊢
          refine pure_ (i := 0) (N := some 32) (v := ?_) (a' := ?_) #[true, false, false, false, false, false, false] rfl rfl (by kernel_rfl) (fun _ _ _ h => h) (Or.inl ⟨by rfl, ?_⟩) ?_ ?_
          rotate_left
          · intro w'
            go_simp
            with_reducible rfl
          rotate_left
          · simp only [Act.put, List.setIfInBounds_toArray, List.set_cons_zero, List.set_cons_succ, i64_w, i32_w]
            rfl
          refine take_ (i := 2) (N := some 34) (v := ?_) (a' := ?_) #[true, false, true, false, false, false, false] rfl rfl (by kernel_rfl) (fun _ _ _ h => h) (Or.inl ⟨by rfl, ?_⟩) hHeld ?_ ?_
          rotate_left
          · rintro w' ⟨s0, s1, s2, s3⟩
            go_simp
            with_reducible rfl
          rotate_left
          · simp only [Act.put, List.setIfInBounds_toArray, List.set_cons_zero, List.set_cons_succ, i64_w, i32_w]
            rfl
          refine take_ (i := 3) (N := some 35) (v := ?_) (a' := ?_) #[true, false, true, true, false, false, false] rfl rfl (by kernel_rfl) (fun _ _ _ h => h) (Or.inl ⟨by rfl, ?_⟩) hHeld ?_ ?_
          rotate_left
          · rintro w' ⟨s0, s1, s2, s3⟩
            go_simp
            with_reducible rfl
          rotate_left
          · simp only [Act.put, List.setIfInBounds_toArray, List.set_cons_zero, List.set_cons_succ, i64_w, i32_w]
            rfl
          refine join_ (σ := Value × Value) 2 #[true, true, true, true, true, false, false] (fun s_ => [(33, s_.1), (36, s_.2)]) (fun s_ w' => (w'.cell? ⟨gb352, 0, none⟩ = some (.int .i64 a2_0) ∧ w'.cell? ⟨gb352, 1, none⟩ = some (.int .i64 a2_1) ∧ w'.cell? ⟨gb355, 0, none⟩ = some (.int .i64 (Go.bits .and .i64 a2_0 7)) ∧ w'.cell? ⟨gb355, 1, none⟩ = some (.int .i64 (wrap64 ((Go.bits .and .i64 a2_0 7) + (Go.bits .and .i64 a2_1 7))))) ∧ (Kd.R k29 29 w' w.heap.size (fun k_ => some k_ ≠ (s_.2 : Value).ownBlock ∧ k_ ≠ gb352 ∧ k_ ≠ gb355) s_.1 t356) ∧ (Kd.R k29 29 w' w.heap.size (fun k_ => some k_ ≠ (s_.1 : Value).ownBlock ∧ k_ ≠ gb352 ∧ k_ ≠ gb355) s_.2 y359) ∧ (w'.heap[gb352]? = some (.cells #[.int .i64 a2_0, .int .i64 a2_1] 29 (0, 0))) ∧ (w'.heap[gb355]? = some (.cells #[.int .i64 (Go.bits .and .i64 a2_0 7), .int .i64 (wrap64 ((Go.bits .and .i64 a2_0 7) + (Go.bits .and .i64 a2_1 7)))] 29 (0, 0))) ∧ (Below w.heap.size w w')) ?_ ?_
          rotate_left
          · intro hCont
            refine two_ (i := 1) (j := 4) (Ni := some 33) (Nj := some 36) #[true, true, true, true, false, false, false] #[true, false, true, true, true, false, false] rfl rfl rfl rfl (by kernel_rfl) (by decide) (by decide) (fun K hK => ?_) (fun K hK => ?_)
            · skip
              refine goes_ Try.func14 (by kernel_rfl) rfl #[.string (t354 ++ (a1.extract 0 ((ji6) : Int).toNat))] (by rfl) rfl rfl (by (try simp only [List.map_toArray, List.map_cons, List.map_nil]); first | done | (simp only [hji6]; rfl) | rfl | (simp only [List.length_drop, List.length_take]; rfl)) ?_
              with_reducible refine (cluster_Split.calls (t354 ++ (a1.extract 0 ((ji6) : Int).toNat)) t356 _ A10.out).mono ?_
              rintro e w22 ⟨v357, rfl, ho0, hb⟩
              refine ⟨_, rfl, ?_⟩
              have n0_ := Aside0.mk (Kd.R_lower (Kd.R_newB (Kd.R_newB ho0 (g := gb352) (o := .cells #[.int .i64 a2_0, .int .i64 a2_1] 29 (0, 0)) (by (with_reducible repeat (first | refine blk_drewN ?_ _ | refine blk_drew ?_ | refine blk_alloc ?_ _)); exact BK352.out)) (g := gb355) (o := .cells #[.int .i64 (Go.bits .and .i64 a2_0 7), .int .i64 (wrap64 ((Go.bits .and .i64 a2_0 7) + (Go.bits .and .i64 a2_1 7)))] 29 (0, 0)) (by (with_reducible repeat (first | refine blk_drewN ?_ _ | refine blk_drew ?_ | refine blk_alloc ?_ _)); exact BK355.out)) (below_size (by repeat (first | (with_reducible first | exact HB.out | apply below_alloc | apply pw_below_drewN | apply below_drew1 | refine below_set ?_ GE352.out | refine below_set ?_ GE355.out) | exact HB.out))))
              have n1_ := Aside0.mk (blk_below (g := gb352) (o := .cells #[.int .i64 a2_0, .int .i64 a2_1] 29 (0, 0)) (by (with_reducible repeat (first | refine blk_drewN ?_ _ | refine blk_drew ?_ | refine blk_alloc ?_ _)); exact BK352.out) hb)
              have n2_ := Aside0.mk (blk_below (g := gb355) (o := .cells #[.int .i64 (Go.bits .and .i64 a2_0 7), .int .i64 (wrap64 ((Go.bits .and .i64 a2_0 7) + (Go.bits .and .i64 a2_1 7)))] 29 (0, 0)) (by (with_reducible repeat (first | refine blk_drewN ?_ _ | refine blk_drew ?_ | refine blk_alloc ?_ _)); exact BK355.out) hb)
              have n3_ := Aside0.mk (below_step (by repeat (first | (with_reducible first | exact HB.out | apply below_alloc | apply pw_below_drewN | apply below_drew1 | refine below_set ?_ GE352.out | refine below_set ?_ GE355.out) | exact HB.out)) hb)
              clear BK352
              clear BK355
              clear HB
              have HO358 := n0_
              have BK352 := n1_
              have BK355 := n2_
              have HB := n3_
              clear n0_ n1_ n2_ n3_
              (try clear hb)
              (try clear hb2)
              (try clear hk)
              (try clear hi)
              (try clear ho0)
              refine hK.out _ _ ⟨(blk_cell BK352.out 0).trans rfl, (blk_cell BK352.out 1).trans rfl, (blk_cell BK355.out 0).trans rfl, (blk_cell BK355.out 1).trans rfl⟩ (fun hHeld => ?_)
              clear hK K
              refine norm_ (a' := ?_) ?_ ?_
              rotate_left
              · show Act.put _ (some 33) _ = _
                simp only [Act.put, List.setIfInBounds_toArray, List.set_cons_zero, List.set_cons_succ, i64_w, i32_w]
                rfl
              refine one_ (i := 4) (N := some 36) #[true, true, true, true, true, false, false] rfl rfl (by kernel_rfl) (by decide) (fun K hK => ?_)
              refine Kd.R_lit_step k29 _ 29 ?hg (N := 36) ?hd (xs := ([(⟨a2_0, a2_1⟩ : S29), (⟨Go.bits .and .i64 a2_0 7, wrap64 ((Go.bits .and .i64 a2_0 7) + (Go.bits .and .i64 a2_1 7))⟩ : S29)] : List (S29))) (inner := [.int .i64 a2_0, .int .i64 a2_1, .int .i64 (Go.bits .and .i64 a2_0 7), .int .i64 (wrap64 ((Go.bits .and .i64 a2_0 7) + (Go.bits .and .i64 a2_1 7)))]) (ok := fun _ => True) (okp := fun _ => True) ?hr ?hp (fun _ hk => hk) trivial (Below.refl _ _) (Nat.le_refl _) (by simp) ?_; (case hd => rfl); (case hg => rfl); (case hr => first | (go_simp; done) | (go_simp; rfl)); (case hp => exact (Reps.c2 (show Kd.M k29 _ _ _ (⟨a2_0, a2_1⟩ : S29) [.int .i64 a2_0, .int .i64 a2_1] from (k29_mkM _ _ _ (⟨a2_0, a2_1⟩ : S29) )) (Reps.c2 (show Kd.M k29 _ _ _ (⟨Go.bits .and .i64 a2_0 7, wrap64 ((Go.bits .and .i64 a2_0 7) + (Go.bits .and .i64 a2_1 7))⟩ : S29) [.int .i64 (Go.bits .and .i64 a2_0 7), .int .i64 (wrap64 ((Go.bits .and .i64 a2_0 7) + (Go.bits .and .i64 a2_1 7)))] from (k29_mkM _ _ _ (⟨Go.bits .and .i64 a2_0 7, wrap64 ((Go.bits .and .i64 a2_0 7) + (Go.bits .and .i64 a2_1 7))⟩ : S29) )) (Reps.none _ _))))
              intro v360 w23 ho24 hb hg_ hnew_
              clear hg_ hnew_
              (first | rw [← Ny359.out] at ho24 | (simp only [Int.reduceToNat] at ho24; rw [← Ny359.out] at ho24))
              have n0_ := Aside0.mk (Kd.R_elder' (by (with_reducible repeat (first | apply Kd.R_alloc | apply Kd.R_drewN | apply Kd.R_drew)); exact HO358.out) (Kd.R_base ho24) hb)
              have n1_ := Aside0.mk (Kd.R_lower (Kd.R_newB (Kd.R_newB (Kd.R_new' ho24 (Kd.R_lt (by (with_reducible repeat (first | apply Kd.R_alloc | apply Kd.R_drewN | apply Kd.R_drew)); exact HO358.out))) (g := gb352) (o := .cells #[.int .i64 a2_0, .int .i64 a2_1] 29 (0, 0)) (by (with_reducible repeat (first | refine blk_drewN ?_ _ | refine blk_drew ?_ | refine blk_alloc ?_ _)); exact BK352.out)) (g := gb355) (o := .cells #[.int .i64 (Go.bits .and .i64 a2_0 7), .int .i64 (wrap64 ((Go.bits .and .i64 a2_0 7) + (Go.bits .and .i64 a2_1 7)))] 29 (0, 0)) (by (with_reducible repeat (first | refine blk_drewN ?_ _ | refine blk_drew ?_ | refine blk_alloc ?_ _)); exact BK355.out)) (below_size (by repeat (first | (with_reducible first | exact HB.out | apply below_alloc | apply pw_below_drewN | apply below_drew1 | refine below_set ?_ GE352.out | refine below_set ?_ GE355.out) | exact HB.out))))
              have n2_ := Aside0.mk (blk_below (g := gb352) (o := .cells #[.int .i64 a2_0, .int .i64 a2_1] 29 (0, 0)) (by (with_reducible repeat (first | refine blk_drewN ?_ _ | refine blk_drew ?_ | refine blk_alloc ?_ _)); exact BK352.out) hb)
              have n3_ := Aside0.mk (blk_below (g := gb355) (o := .cells #[.int .i64 (Go.bits .and .i64 a2_0 7), .int .i64 (wrap64 ((Go.bits .and .i64 a2_0 7) + (Go.bits .and .i64 a2_1 7)))] 29 (0, 0)) (by (with_reducible repeat (first | refine blk_drewN ?_ _ | refine blk_drew ?_ | refine blk_alloc ?_ _)); exact BK355.out) hb)
              have n4_ := Aside0.mk (below_step (by repeat (first | (with_reducible first | exact HB.out | apply below_alloc | apply pw_below_drewN | apply below_drew1 | refine below_set ?_ GE352.out | refine below_set ?_ GE355.out) | exact HB.out)) hb)
              clear HO358
              clear BK352
              clear BK355
              clear HB
              have HO358 := n0_
              have HO361 := n1_
              have BK352 := n2_
              have BK355 := n3_
              have HB := n4_
              clear n0_ n1_ n2_ n3_ n4_
              clear hb ho24
              refine hK.out _ _ ⟨(blk_cell BK352.out 0).trans rfl, (blk_cell BK352.out 1).trans rfl, (blk_cell BK355.out 0).trans rfl, (blk_cell BK355.out 1).trans rfl⟩ (fun hHeld => ?_)
              clear hK K
              refine norm_ (a' := ?_) ?_ ?_
              rotate_left
              · show Act.put _ (some 36) _ = _
                simp only [Act.put, List.setIfInBounds_toArray, List.set_cons_zero, List.set_cons_succ, i64_w, i32_w]
                rfl
              exact norm_ (by simp only [putAll, Act.put, List.setIfInBounds_toArray, List.set_cons_zero, List.set_cons_succ]) (hCont (v357, v360) _ ⟨hHeld, (by (with_reducible repeat (first | apply Kd.R_alloc | apply Kd.R_drewN | apply Kd.R_drew)); exact Kd.R_mono HO358.out (fun _ hk => ⟨hk.2, ⟨hk.1.1.2, hk.1.2⟩⟩)), (by (with_reducible repeat (first | apply Kd.R_alloc | apply Kd.R_drewN | apply Kd.R_drew)); exact Kd.R_mono HO361.out (fun _ hk => ⟨hk.1.1.2, ⟨hk.1.2, hk.2⟩⟩)), (by (with_reducible repeat (first | refine blk_drewN ?_ _ | refine blk_drew ?_ | refine blk_alloc ?_ _)); exact BK352.out), (by (with_reducible repeat (first | refine blk_drewN ?_ _ | refine blk_drew ?_ | refine blk_alloc ?_ _)); exact BK355.out), (by repeat (first | (with_reducible first | exact HB.out | apply below_alloc | apply pw_below_drewN | apply below_drew1 | refine below_set ?_ GE352.out | refine below_set ?_ GE355.out) | exact HB.out))⟩)
            · skip
              refine Kd.R_lit_step k29 _ 29 ?hg (N := 36) ?hd (xs := ([(⟨a2_0, a2_1⟩ : S29), (⟨Go.bits .and .i64 a2_0 7, wrap64 ((Go.bits .and .i64 a2_0 7) + (Go.bits .and .i64 a2_1 7))⟩ : S29)] : List (S29))) (inner := [.int .i64 a2_0, .int .i64 a2_1, .int .i64 (Go.bits .and .i64 a2_0 7), .int .i64 (wrap64 ((Go.bits .and .i64 a2_0 7) + (Go.bits .and .i64 a2_1 7)))]) (ok := fun _ => True) (okp := fun _ => True) ?hr ?hp (fun _ hk => hk) trivial (Below.refl _ _) (Nat.le_refl _) (by simp) ?_; (case hd => rfl); (case hg => rfl); (case hr => first | (go_simp; done) | (go_simp; rfl)); (case hp => exact (Reps.c2 (show Kd.M k29 _ _ _ (⟨a2_0, a2_1⟩ : S29) [.int .i64 a2_0, .int .i64 a2_1] from (k29_mkM _ _ _ (⟨a2_0, a2_1⟩ : S29) )) (Reps.c2 (show Kd.M k29 _ _ _ (⟨Go.bits .and .i64 a2_0 7, wrap64 ((Go.bits .and .i64 a2_0 7) + (Go.bits .and .i64 a2_1 7))⟩ : S29) [.int .i64 (Go.bits .and .i64 a2_0 7), .int .i64 (wrap64 ((Go.bits .and .i64 a2_0 7) + (Go.bits .and .i64 a2_1 7)))] from (k29_mkM _ _ _ (⟨Go.bits .and .i64 a2_0 7, wrap64 ((Go.bits .and .i64 a2_0 7) + (Go.bits .and .i64 a2_1 7))⟩ : S29) )) (Reps.none _ _))))
              intro v360 w22 ho23 hb hg_ hnew_
              clear hg_ hnew_
              (first | rw [← Ny359.out] at ho23 | (simp only [Int.reduceToNat] at ho23; rw [← Ny359.out] at ho23))
              have n0_ := Aside0.mk (Kd.R_lower (Kd.R_newB (Kd.R_newB ho23 (g := gb352) (o := .cells #[.int .i64 a2_0, .int .i64 a2_1] 29 (0, 0)) (by (with_reducible repeat (first | refine blk_drewN ?_ _ | refine blk_drew ?_ | refine blk_alloc ?_ _)); exact BK352.out)) (g := gb355) (o := .cells #[.int .i64 (Go.bits .and .i64 a2_0 7), .int .i64 (wrap64 ((Go.bits .and .i64 a2_0 7) + (Go.bits .and .i64 a2_1 7)))] 29 (0, 0)) (by (with_reducible repeat (first | refine blk_drewN ?_ _ | refine blk_drew ?_ | refine blk_alloc ?_ _)); exact BK355.out)) (below_size (by repeat (first | (with_reducible first | exact HB.out | apply below_alloc | apply pw_below_drewN | apply below_drew1 | refine below_set ?_ GE352.out | refine below_set ?_ GE355.out) | exact HB.out))))
              have n1_ := Aside0.mk (blk_below (g := gb352) (o := .cells #[.int .i64 a2_0, .int .i64 a2_1] 29 (0, 0)) (by (with_reducible repeat (first | refine blk_drewN ?_ _ | refine blk_drew ?_ | refine blk_alloc ?_ _)); exact BK352.out) hb)
              have n2_ := Aside0.mk (blk_below (g := gb355) (o := .cells #[.int .i64 (Go.bits .and .i64 a2_0 7), .int .i64 (wrap64 ((Go.bits .and .i64 a2_0 7) + (Go.bits .and .i64 a2_1 7)))] 29 (0, 0)) (by (with_reducible repeat (first | refine blk_drewN ?_ _ | refine blk_drew ?_ | refine blk_alloc ?_ _)); exact BK355.out) hb)
              have n3_ := Aside0.mk (below_step (by repeat (first | (with_reducible first | exact HB.out | apply below_alloc | apply pw_below_drewN | apply below_drew1 | refine below_set ?_ GE352.out | refine below_set ?_ GE355.out) | exact HB.out)) hb)
              clear BK352
              clear BK355
              clear HB
              have HO361 := n0_
              have BK352 := n1_
              have BK355 := n2_
              have HB := n3_
              clear n0_ n1_ n2_ n3_
              clear hb ho23
              refine hK.out _ _ ⟨(blk_cell BK352.out 0).trans rfl, (blk_cell BK352.out 1).trans rfl, (blk_cell BK355.out 0).trans rfl, (blk_cell BK355.out 1).trans rfl⟩ (fun hHeld => ?_)
              clear hK K
              refine norm_ (a' := ?_) ?_ ?_
              rotate_left
              · show Act.put _ (some 36) _ = _
                simp only [Act.put, List.setIfInBounds_toArray, List.set_cons_zero, List.set_cons_succ, i64_w, i32_w]
                rfl
              refine one_ (i := 1) (N := some 33) #[true, true, true, true, true, false, false] rfl rfl (by kernel_rfl) (by decide) (fun K hK => ?_)
              refine goes_ Try.func14 (by kernel_rfl) rfl #[.string (t354 ++ (a1.extract 0 ((ji6) : Int).toNat))] (by rfl) rfl rfl (by (try simp only [List.map_toArray, List.map_cons, List.map_nil]); first | done | (simp only [hji6]; rfl) | rfl | (simp only [List.length_drop, List.length_take]; rfl)) ?_
              with_reducible refine (cluster_Split.calls (t354 ++ (a1.extract 0 ((ji6) : Int).toNat)) t356 _ A10.out).mono ?_
              rintro e w24 ⟨v357, rfl, ho0, hb⟩
              refine ⟨_, rfl, ?_⟩
              have n0_ := Aside0.mk (Kd.R_elder' (by (with_reducible repeat (first | apply Kd.R_alloc | apply Kd.R_drewN | apply Kd.R_drew)); exact HO361.out) (Kd.R_base ho0) hb)
              have n1_ := Aside0.mk (Kd.R_lower (Kd.R_newB (Kd.R_newB (Kd.R_new' ho0 (Kd.R_lt (by (with_reducible repeat (first | apply Kd.R_alloc | apply Kd.R_drewN | apply Kd.R_drew)); exact HO361.out))) (g := gb352) (o := .cells #[.int .i64 a2_0, .int .i64 a2_1] 29 (0, 0)) (by (with_reducible repeat (first | refine blk_drewN ?_ _ | refine blk_drew ?_ | refine blk_alloc ?_ _)); exact BK352.out)) (g := gb355) (o := .cells #[.int .i64 (Go.bits .and .i64 a2_0 7), .int .i64 (wrap64 ((Go.bits .and .i64 a2_0 7) + (Go.bits .and .i64 a2_1 7)))] 29 (0, 0)) (by (with_reducible repeat (first | refine blk_drewN ?_ _ | refine blk_drew ?_ | refine blk_alloc ?_ _)); exact BK355.out)) (below_size (by repeat (first | (with_reducible first | exact HB.out | apply below_alloc | apply pw_below_drewN | apply below_drew1 | refine below_set ?_ GE352.out | refine below_set ?_ GE355.out) | exact HB.out))))
              have n2_ := Aside0.mk (blk_below (g := gb352) (o := .cells #[.int .i64 a2_0, .int .i64 a2_1] 29 (0, 0)) (by (with_reducible repeat (first | refine blk_drewN ?_ _ | refine blk_drew ?_ | refine blk_alloc ?_ _)); exact BK352.out) hb)
              have n3_ := Aside0.mk (blk_below (g := gb355) (o := .cells #[.int .i64 (Go.bits .and .i64 a2_0 7), .int .i64 (wrap64 ((Go.bits .and .i64 a2_0 7) + (Go.bits .and .i64 a2_1 7)))] 29 (0, 0)) (by (with_reducible repeat (first | refine blk_drewN ?_ _ | refine blk_drew ?_ | refine blk_alloc ?_ _)); exact BK355.out) hb)
              have n4_ := Aside0.mk (below_step (by repeat (first | (with_reducible first | exact HB.out | apply below_alloc | apply pw_below_drewN | apply below_drew1 | refine below_set ?_ GE352.out | refine below_set ?_ GE355.out) | exact HB.out)) hb)
              clear HO361
              clear BK352
              clear BK355
              clear HB
              have HO361 := n0_
              have HO358 := n1_
              have BK352 := n2_
              have BK355 := n3_
              have HB := n4_
              clear n0_ n1_ n2_ n3_ n4_
              (try clear hb)
              (try clear hb2)
              (try clear hk)
              (try clear hi)
              (try clear ho0)
              refine hK.out _ _ ⟨(blk_cell BK352.out 0).trans rfl, (blk_cell BK352.out 1).trans rfl, (blk_cell BK355.out 0).trans rfl, (blk_cell BK355.out 1).trans rfl⟩ (fun hHeld => ?_)
              clear hK K
              refine norm_ (a' := ?_) ?_ ?_
              rotate_left
              · show Act.put _ (some 33) _ = _
                simp only [Act.put, List.setIfInBounds_toArray, List.set_cons_zero, List.set_cons_succ, i64_w, i32_w]
                rfl
              exact norm_ (by simp only [putAll, Act.put, List.setIfInBounds_toArray, List.set_cons_zero, List.set_cons_succ]) (hCont (v357, v360) _ ⟨hHeld, (by (with_reducible repeat (first | apply Kd.R_alloc | apply Kd.R_drewN | apply Kd.R_drew)); exact Kd.R_mono HO358.out (fun _ hk => ⟨hk.1.1.2, ⟨hk.1.2, hk.2⟩⟩)), (by (with_reducible repeat (first | apply Kd.R_alloc | apply Kd.R_drewN | apply Kd.R_drew)); exact Kd.R_mono HO361.out (fun _ hk => ⟨hk.2, ⟨hk.1.1.2, hk.1.2⟩⟩)), (by (with_reducible repeat (first | refine blk_drewN ?_ _ | refine blk_drew ?_ | refine blk_alloc ?_ _)); exact BK352.out), (by (with_reducible repeat (first | refine blk_drewN ?_ _ | refine blk_drew ?_ | refine blk_alloc ?_ _)); exact BK355.out), (by repeat (first | (with_reducible first | exact HB.out | apply below_alloc | apply pw_below_drewN | apply below_drew1 | refine below_set ?_ GE352.out | refine below_set ?_ GE355.out) | exact HB.out))⟩)
          rintro ⟨v357, v360⟩ w25 ⟨hS_, h0_, h1_, h2_, h3_, h4_⟩
          have n0_ : Aside0 (Kd.R k29 29 w25 w.heap.size (fun k_ => some k_ ≠ (v360 : Value).ownBlock ∧ k_ ≠ gb352 ∧ k_ ≠ gb355) v357 t356) := ⟨h0_⟩
          have n1_ : Aside0 (Kd.R k29 29 w25 w.heap.size (fun k_ => some k_ ≠ (v357 : Value).ownBlock ∧ k_ ≠ gb352 ∧ k_ ≠ gb355) v360 y359) := ⟨h1_⟩
          have n2_ : Aside0 (w25.heap[gb352]? = some (.cells #[.int .i64 a2_0, .int .i64 a2_1] 29 (0, 0))) := ⟨h2_⟩
          have n3_ : Aside0 (w25.heap[gb355]? = some (.cells #[.int .i64 (Go.bits .and .i64 a2_0 7), .int .i64 (wrap64 ((Go.bits .and .i64 a2_0 7) + (Go.bits .and .i64 a2_1 7)))] 29 (0, 0))) := ⟨h3_⟩
          have n4_ : Aside0 (Below w.heap.size w w25) := ⟨h4_⟩
          clear BK352
          clear BK355
          clear HB
          clear h0_ h1_ h2_ h3_ h4_
          have HO358 := n0_
          have HO361 := n1_
          have BK352 := n2_
          have BK355 := n3_
          have HB := n4_
          clear n0_ n1_ n2_ n3_ n4_
          have hHeld : w25.cell? ⟨gb352, 0, none⟩ = some (.int .i64 a2_0) ∧ w25.cell? ⟨gb352, 1, none⟩ = some (.int .i64 a2_1) ∧ w25.cell? ⟨gb355, 0, none⟩ = some (.int .i64 (Go.bits .and .i64 a2_0 7)) ∧ w25.cell? ⟨gb355, 1, none⟩ = some (.int .i64 (wrap64 ((Go.bits .and .i64 a2_0 7) + (Go.bits .and .i64 a2_1 7)))) := hS_
          obtain ⟨Ao27, co27, eo27⟩ := Kd.R_slice HO361.out
          (first | subst eo27 | (injection eo27 with f1_ f2_ f3_; have f4_ := f1_.symm; have f5_ := f3_.symm; clear f1_ f2_ f3_; subst f4_; subst f5_))
          refine norm_ (a' := ?_) ?_ ?_
          rotate_left
          · simp only [putAll, Act.put, List.setIfInBounds_toArray, List.set_cons_zero, List.set_cons_succ]
            rfl
          refine one_ (i := 5) (N := some 37) #[true, true, true, true, true, true, false] rfl rfl (by kernel_rfl) (by decide) (fun K hK => ?_)
          refine Kd.R_append_rows_step k29 (w0 := w) w.heap.size (by rfl) (.tmp 33) (.tmp 36) 30 29 (.agg #[(.int .i64 0), (.int .i64 0)]) 16 rfl Try.underlying30 info29 rfl (by decide) (by omega) v357 t356 y359 _ _ _ (fun k_ => some k_ ≠ (.slice Ao27 y359.length co27 : Value).ownBlock ∧ k_ ≠ gb352 ∧ k_ ≠ gb355) (fun _ => False) rfl rfl ?aO ?aR (fun _ _ h => h) (fun _ h => h.elim) ?aF ?aB ?aS ?aL ?_
          (case aR => repeat (first | exact (Kd.R_reads' HO361.out).2.2 | (with_reducible refine Kd.C_alloc ?_ _) | (with_reducible refine Kd.C_drewN ?_ _) | (with_reducible refine Kd.C_drew ?_)))
          (case aB => exact (by repeat (first | (with_reducible first | exact HB.out | apply below_alloc | apply pw_below_drewN | apply below_drew1 | refine below_set ?_ GE352.out | refine below_set ?_ GE355.out) | exact HB.out)))
          (case aF => exact (fun k_ hk => ⟨Kd.fresh' (Kd.R_lt (by (with_reducible repeat (first | apply Kd.R_alloc | apply Kd.R_drewN | apply Kd.R_drew)); exact HO361.out)) k_ hk, Kd.freshB (g := gb352) (o := .cells #[.int .i64 a2_0, .int .i64 a2_1] 29 (0, 0)) (by (with_reducible repeat (first | refine blk_drewN ?_ _ | refine blk_drew ?_ | refine blk_alloc ?_ _)); exact BK352.out) k_ hk, Kd.freshB (g := gb355) (o := .cells #[.int .i64 (Go.bits .and .i64 a2_0 7), .int .i64 (wrap64 ((Go.bits .and .i64 a2_0 7) + (Go.bits .and .i64 a2_1 7)))] 29 (0, 0)) (by (with_reducible repeat (first | refine blk_drewN ?_ _ | refine blk_drew ?_ | refine blk_alloc ?_ _)); exact BK355.out) k_ hk⟩))
          (case aO => exact (by (with_reducible repeat (first | apply Kd.R_alloc | apply Kd.R_drewN | apply Kd.R_drew)); exact HO358.out))
          (case aS => exact (below_size (by repeat (first | (with_reducible first | exact HB.out | apply below_alloc | apply pw_below_drewN | apply below_drew1 | refine below_set ?_ GE352.out | refine below_set ?_ GE355.out) | exact HB.out))))
          (case aL => have := LMc11.out; omega)
          intro v363 w26 ho hb hg hat
          rw [← Ny362.out] at ho
          have n0_ := Aside0.mk (blk_grown (g := gb352) (o := .cells #[.int .i64 a2_0, .int .i64 a2_1] 29 (0, 0)) (by (with_reducible repeat (first | refine blk_drewN ?_ _ | refine blk_drew ?_ | refine blk_alloc ?_ _)); exact BK352.out) hg (Kd.R_away HO358.out (fun _ hk => hk.2.1)))
          have n1_ := Aside0.mk (blk_grown (g := gb355) (o := .cells #[.int .i64 (Go.bits .and .i64 a2_0 7), .int .i64 (wrap64 ((Go.bits .and .i64 a2_0 7) + (Go.bits .and .i64 a2_1 7)))] 29 (0, 0)) (by (with_reducible repeat (first | refine blk_drewN ?_ _ | refine blk_drew ?_ | refine blk_alloc ?_ _)); exact BK355.out) hg (Kd.R_away HO358.out (fun _ hk => hk.2.2)))
          have n2_ := Aside0.mk (Kd.R_after (ok := (fun k_ => k_ ≠ gb352 ∧ k_ ≠ gb355)) (by (with_reducible repeat (first | apply Kd.R_alloc | apply Kd.R_drewN | apply Kd.R_drew)); exact Kd.R_mono HO361.out (fun _ hk => ⟨⟨hk.2.1, hk.2.2⟩, hk.1⟩)) hg hat)
          have n3_ := Aside0.mk (hb)
          have n4_ := Aside0.mk (ho)
          clear BK352
          clear BK355
          clear HO361
          clear HB
          clear HO358
          have BK352 := n0_
          have BK355 := n1_
          have HO361 := n2_
          have HB := n3_
          have HO364 := n4_
          clear n0_ n1_ n2_ n3_ n4_
          clear ho hb hg hat
          refine hK.out _ _ ⟨(blk_cell BK352.out 0).trans rfl, (blk_cell BK352.out 1).trans rfl, (blk_cell BK355.out 0).trans rfl, (blk_cell BK355.out 1).trans rfl⟩ (fun hHeld => ?_)
          clear hK K
          refine norm_ (a' := ?_) ?_ ?_
          rotate_left
          · show Act.put _ (some 37) _ = _
            simp only [Act.put, List.setIfInBounds_toArray, List.set_cons_zero, List.set_cons_succ, i64_w, i32_w]
            rfl
          refine pure_ (i := 6) (N := some 10) (v := ?_) (a' := ?_) #[true, true, true, true, true, true, true] rfl rfl (by kernel_rfl) (fun _ _ _ h => h) (Or.inl ⟨by rfl, ?_⟩) ?_ ?_
          rotate_left
          · intro w'
            go_simp
            with_reducible rfl
          rotate_left
          · simp only [Act.put, List.setIfInBounds_toArray, List.set_cons_zero, List.set_cons_succ, i64_w, i32_w]
            rfl
          refine done_ (by kernel_rfl) ?_
          try go_wp2
          go_loopg [11] k (fun kq v11 w' => ∃ (x11_1 : Int), v11 = .int .i64 x11_1 ∧ Aside0 (abugidalaw17_FormsOrder.l0 kq t353 (t354 ++ (a1.extract 0 ((ji6) : Int).toNat)) y362 x11_1 = some r) ∧ Aside0 (kq ≤ k) ∧ Aside0 (Kd.R k29 29 w' w.heap.size (fun k_ => k_ ≠ gb352 ∧ k_ ≠ gb355) v363 y362) ∧ Aside0 (w'.heap[gb352]? = some (.cells #[.int .i64 a2_0, .int .i64 a2_1] 29 (0, 0))) ∧ Aside0 (w'.heap[gb355]? = some (.cells #[.int .i64 (Go.bits .and .i64 a2_0 7), .int .i64 (wrap64 ((Go.bits .and .i64 a2_0 7) + (Go.bits .and .i64 a2_1 7)))] 29 (0, 0))) ∧ Aside0 (Below w.heap.size w w'))
          case atStart => exact ⟨(0), (by first | rfl | (simp; done) | (simp [*]; done)), H', ⟨Nat.le_refl _⟩, ⟨by (with_reducible repeat (first | apply Kd.R_alloc | apply Kd.R_drewN | apply Kd.R_drew)); exact Kd.R_mono HO364.out (fun _ hk => ⟨hk.2.1, hk.2.2⟩)⟩, ⟨by (with_reducible repeat (first | refine blk_drewN ?_ _ | refine blk_drew ?_ | refine blk_alloc ?_ _)); exact BK352.out⟩, ⟨by (with_reducible repeat (first | refine blk_drewN ?_ _ | refine blk_drew ?_ | refine blk_alloc ?_ _)); exact BK355.out⟩, ⟨by repeat (first | (with_reducible first | exact HB.out | apply below_alloc | apply pw_below_drewN | apply below_drew1 | refine below_set ?_ GE352.out | refine below_set ?_ GE355.out) | exact HB.out)⟩⟩
          case round =>
            clear H'
            try clear c1
            try clear c2
            try clear p2
            try clear c4
            try clear p6
            try clear c7
            try clear c7b0
            try clear c7b1
            try clear c8
            try clear c8b0
            try clear c8b1
            try clear c9
            try clear c9b0
            try clear c9b1
            try clear c9b2
            try clear c10
            try clear c11
            try clear c14
            try clear c18
            try clear hcz16_0
            try clear hcz16_1
            try clear hcz19_0
            try clear hcz19_1
            try clear hfz16_0
            try clear hfz16_1
            try clear hfz19_0
            try clear hfz19_1
            obtain ⟨x11_1, rfl, HA, HK1, HO_10, BK352, BK355, HB⟩ := hrel
            cases gk with
            | zero => exact absurd HA.out (by simp [abugidalaw17_FormsOrder.l0])
            | succ k1 =>
              have H := HA.out
              clear HA
              simp only [abugidalaw17_FormsOrder.l0] at H
              by_cases c28 : x11_1 < (y362.length : Int)
              · rw [if_pos c28] at H
                have c28b0 : decide (x11_1 < (y362.length : Int)) = true := decide_eq_true c28
                clear c28
                by_cases c29 : 0 ≤ x11_1
                · rw [if_pos c29] at H
                  have c29b0 : decide (0 ≤ x11_1) = true := decide_eq_true c29
                  clear c29
                  replace H := Option.bind_eq_some_iff.mp H
                  obtain ⟨t366, A300, H⟩ := H
                  replace H : ((abugidaref17_Order.f k1 (t354 ++ (a1.extract 0 ((ji6) : Int).toNat)) ((rd_T29 y362 x11_1).f0) ((rd_T29 y362 x11_1).f1)).bind fun t370 => ((abugidalaw17_is.f k1 t366 t370).bind fun t373 => (if t373 = true then (abugidalaw17_FormsOrder.l0 k1 t353 (t354 ++ (a1.extract 0 ((ji6) : Int).toNat)) y362 (wrap64 (x11_1 + 1))) else (some false)))) = some r := H
                  have A30 := Aside0.mk A300
                  clear A300
                  replace H := Option.bind_eq_some_iff.mp H
                  obtain ⟨t370, A310, H⟩ := H
                  replace H : ((abugidalaw17_is.f k1 t366 t370).bind fun t373 => (if t373 = true then (abugidalaw17_FormsOrder.l0 k1 t353 (t354 ++ (a1.extract 0 ((ji6) : Int).toNat)) y362 (wrap64 (x11_1 + 1))) else (some false))) = some r := H
                  have A31 := Aside0.mk A310
                  clear A310
                  replace H := Option.bind_eq_some_iff.mp H
                  obtain ⟨t373, A320, H⟩ := H
                  replace H : (if t373 = true then (abugidalaw17_FormsOrder.l0 k1 t353 (t354 ++ (a1.extract 0 ((ji6) : Int).toNat)) y362 (wrap64 (x11_1 + 1))) else (some false)) = some r := H
                  have A32 := Aside0.mk A320
                  clear A320
                  by_cases c33 : t373 = true
                  · subst c33
                    have H1 : (abugidalaw17_FormsOrder.l0 k1 t353 (t354 ++ (a1.extract 0 ((ji6) : Int).toNat)) y362 (wrap64 (x11_1 + 1))) = some r := by rw [if_pos rfl] at H; exact H
                    clear H
                    have H := H1
                    clear H1
                    have H' := Aside0.mk H
                    clear H
                    obtain ⟨Ao34, co34, eo34⟩ := Kd.R_slice HO_10.out
                    subst eo34
                    try go_wp2
                    have n0_ := Aside0.mk (Kd.R_drew HO_10.out)
                    have n1_ := Aside0.mk (blk_drew BK352.out)
                    have n2_ := Aside0.mk (blk_drew BK355.out)
                    have n3_ := Aside0.mk (below_drew1 HB.out)
                    clear HO_10
                    clear BK352
                    clear BK355
                    clear HB
                    have HO_10 := n0_
                    have BK352 := n1_
                    have BK355 := n2_
                    have HB := n3_
                    clear n0_ n1_ n2_ n3_
                    have p365 : 0 ≤ (x11_1 : Int) := of_decide_eq_true (by first | (with_reducible assumption) | assumption)
                    have q365 : x11_1 < (y362.length : Int) := of_decide_eq_true (by first | (with_reducible assumption) | assumption)
                    obtain ⟨ad365, e365, hx365_0, hx365_1⟩ := at_T29 (Kd.R_reads' HO_10.out).2.2 x11_1 p365 q365
                    cases e365
                    replace p365 := eq_true p365
                    replace q365 := eq_true q365
                    have p369 : 0 ≤ (x11_1 : Int) := of_decide_eq_true (by first | (with_reducible assumption) | assumption)
                    have q369 : x11_1 < (y362.length : Int) := of_decide_eq_true (by first | (with_reducible assumption) | assumption)
                    obtain ⟨ad369, e369, hx369_0, hx369_1⟩ := at_T29 (Kd.R_reads' HO_10.out).2.2 x11_1 p369 q369
                    obtain rfl : ad365 = ad369 := (by injection e369)
                    replace p369 := eq_true p369
                    replace q369 := eq_true q369
                    refine start_ (n := 14) (S := fun w' => w'.cell? (ad365.add ((x11_1).toNat * 2)) = some (.int .i64 ((rd_T29 y362 x11_1).f0)) ∧ w'.cell? ⟨(ad365.add ((x11_1).toNat * 2)).block, (ad365.add ((x11_1).toNat * 2)).off + 1, none⟩ = some (.int .i64 ((rd_T29 y362 x11_1).f1)) ∧ w'.cell? (ad365.add ((x11_1).toNat * 2)) = some (.int .i64 ((rd_T29 y362 x11_1).f0)) ∧ w'.cell? ⟨(ad365.add ((x11_1).toNat * 2)).block, (ad365.add ((x11_1).toNat * 2)).off + 1, none⟩ = some (.int .i64 ((rd_T29 y362 x11_1).f1))) (ds := []) #[false, false, false, false, false, false, false, false, false, false, false, false, false, false] (by kernel_rfl) rfl rfl ⟨hx365_0, hx365_1, hx369_0, hx369_1⟩ (fun hHeld => ?_); refine with_tabW abugidalaw17_FormsOrder.tab8 abugidalaw17_FormsOrder.bits8 (fun HT_ HW_ => ?_)
                    generalize wr.drew = w35 at HO_10 BK352 BK355 HB hx365_0 hx365_1 hx369_0 hx369_1 hHeld ⊢
                    refine pure_ (i := 0) (N := some 44) (v := ?_) (a' := ?_) #[true, false, false, false, false, false, false, false, false, false, false, false, false, false] rfl rfl (any_of HT_.out (by kernel_rfl)) (fun _ _ _ h => h) (Or.inl ⟨by rfl, ?_⟩) ?_ ?_
                    rotate_left
                    · intro w'
                      go_simp
                      with_reducible rfl
                    rotate_left
                    · simp only [Act.put, List.setIfInBounds_toArray, List.set_cons_zero, List.set_cons_succ, i64_w, i32_w]
                      rfl
                    refine pure_ (i := 1) (N := some 45) (v := ?_) (a' := ?_) #[true, true, false, false, false, false, false, false, false, false, false, false, false, false] rfl rfl (any_of HT_.out (by kernel_rfl)) (fun _ _ _ h => h) (Or.inl ⟨by rfl, ?_⟩) ?_ ?_
                    rotate_left
                    · intro w'
                      go_simp
                      with_reducible rfl
                    rotate_left
                    · simp only [Act.put, List.setIfInBounds_toArray, List.set_cons_zero, List.set_cons_succ, i64_w, i32_w]
                      rfl
                    refine pure_ (i := 2) (N := some 46) (v := ?_) (a' := ?_) #[true, true, true, false, false, false, false, false, false, false, false, false, false, false] rfl rfl (any_of HT_.out (by kernel_rfl)) (fun _ _ _ h => h) (Or.inl ⟨by rfl, ?_⟩) ?_ ?_
                    rotate_left
                    · intro w'
                      go_simp
                      with_reducible rfl
                    rotate_left
                    · simp only [Act.put, List.setIfInBounds_toArray, List.set_cons_zero, List.set_cons_succ, i64_w, i32_w]
                      rfl
                    refine pure_ (i := 3) (N := some 47) (v := ?_) (a' := ?_) #[true, true, true, true, false, false, false, false, false, false, false, false, false, false] rfl rfl (any_of HT_.out (by kernel_rfl)) (fun _ _ _ h => h) (Or.inl ⟨by rfl, ?_⟩) ?_ ?_
                    rotate_left
                    · intro w'
                      go_simp
                      with_reducible rfl
                    rotate_left
                    · simp only [Act.put, List.setIfInBounds_toArray, List.set_cons_zero, List.set_cons_succ, i64_w, i32_w]
                      rfl
                    refine pure_ (i := 6) (N := some 50) (v := ?_) (a' := ?_) #[true, true, true, true, false, false, true, false, false, false, false, false, false, false] rfl rfl (any_of HT_.out (by kernel_rfl)) (fun _ _ _ h => h) (Or.inl ⟨by rfl, ?_⟩) ?_ ?_
                    rotate_left
                    · intro w'
                      go_simp
                      with_reducible rfl
                    rotate_left
                    · simp only [Act.put, List.setIfInBounds_toArray, List.set_cons_zero, List.set_cons_succ, i64_w, i32_w]
                      rfl
                    refine pure_ (i := 7) (N := some 51) (v := ?_) (a' := ?_) #[true, true, true, true, false, false, true, true, false, false, false, false, false, false] rfl rfl (any_of HT_.out (by kernel_rfl)) (fun _ _ _ h => h) (Or.inl ⟨by rfl, ?_⟩) ?_ ?_
                    rotate_left
                    · intro w'
                      go_simp
                      with_reducible rfl
                    rotate_left
                    · simp only [Act.put, List.setIfInBounds_toArray, List.set_cons_zero, List.set_cons_succ, i64_w, i32_w]
                      rfl
                    refine pure_ (i := 8) (N := some 52) (v := ?_) (a' := ?_) #[true, true, true, true, false, false, true, true, true, false, false, false, false, false] rfl rfl (any_of HT_.out (by kernel_rfl)) (fun _ _ _ h => h) (Or.inl ⟨by rfl, ?_⟩) ?_ ?_
                    rotate_left
                    · intro w'
                      go_simp
                      with_reducible rfl
                    rotate_left
                    · simp only [Act.put, List.setIfInBounds_toArray, List.set_cons_zero, List.set_cons_succ, i64_w, i32_w]
                      rfl
                    refine pure_ (i := 9) (N := some 53) (v := ?_) (a' := ?_) #[true, true, true, true, false, false, true, true, true, true, false, false, false, false] rfl rfl (any_of HT_.out (by kernel_rfl)) (fun _ _ _ h => h) (Or.inl ⟨by rfl, ?_⟩) ?_ ?_
                    rotate_left
                    · intro w'
                      go_simp
                      with_reducible rfl
                    rotate_left
                    · simp only [Act.put, List.setIfInBounds_toArray, List.set_cons_zero, List.set_cons_succ, i64_w, i32_w]
                      rfl
                    refine take_ (i := 4) (N := some 48) (v := ?_) (a' := ?_) #[true, true, true, true, true, false, true, true, true, true, false, false, false, false] rfl rfl (take_ofW HT_.out HW_.out (by kernel_rfl)) (fun _ _ _ h => h) (Or.inl ⟨by rfl, ?_⟩) hHeld ?_ ?_
                    rotate_left
                    · rintro w' ⟨s0, s1, s2, s3⟩
                      go_simp
                      with_reducible rfl
                    rotate_left
                    · simp only [Act.put, List.setIfInBounds_toArray, List.set_cons_zero, List.set_cons_succ, i64_w, i32_w]
                      rfl
                    refine take_ (i := 10) (N := some 54) (v := ?_) (a' := ?_) #[true, true, true, true, true, false, true, true, true, true, true, false, false, false] rfl rfl (take_ofW HT_.out HW_.out (by kernel_rfl)) (fun _ _ _ h => h) (Or.inl ⟨by rfl, ?_⟩) hHeld ?_ ?_
                    rotate_left
                    · rintro w' ⟨s0, s1, s2, s3⟩
                      go_simp
                      with_reducible rfl
                    rotate_left
                    · simp only [Act.put, List.setIfInBounds_toArray, List.set_cons_zero, List.set_cons_succ, i64_w, i32_w]
                      rfl
                    refine one_ (i := 5) (N := some 49) #[true, true, true, true, true, true, true, true, true, true, true, false, false, false] rfl rfl (one_of HT_.out (by kernel_rfl)) (by decide) (fun K hK => ?_)
                    refine goes_ Try.func15 (by kernel_rfl) rfl #[.string (t354 ++ (a1.extract 0 ((ji6) : Int).toNat)), .agg #[.int .i64 ((rd_T29 y362 x11_1).f0), .int .i64 ((rd_T29 y362 x11_1).f1)]] (by rfl) rfl rfl (by (try simp only [List.map_toArray, List.map_cons, List.map_nil]); first | done | (simp only [hji6]; rfl) | rfl | (simp only [List.length_drop, List.length_take]; rfl)) ?_
                    with_reducible refine (forms_Order.calls k1 (t354 ++ (a1.extract 0 ((ji6) : Int).toNat)) ((rd_T29 y362 x11_1).f0) ((rd_T29 y362 x11_1).f1) t366 _ A30.out).mono ?_
                    rintro e w36 ⟨v367, rfl, ho0, hb⟩
                    have HS0_ := (hb.cell (World.block_lt_of_cell? _ _ (hHeld.1))).trans (hHeld.1)
                    have HS1_ := (hb.cell (World.block_lt_of_cell? _ _ (hHeld.2.1))).trans (hHeld.2.1)
                    have HS2_ := (hb.cell (World.block_lt_of_cell? _ _ (hHeld.2.2.1))).trans (hHeld.2.2.1)
                    have HS3_ := (hb.cell (World.block_lt_of_cell? _ _ (hHeld.2.2.2))).trans (hHeld.2.2.2)
                    refine ⟨_, rfl, ?_⟩
                    have n0_ := Aside0.mk (Kd.R_below (by (with_reducible repeat (first | apply Kd.R_alloc | apply Kd.R_drewN | apply Kd.R_drew)); exact HO_10.out) hb)
                    have n1_ := Aside0.mk (Kd.R_lower ho0 (below_size (by repeat (first | (with_reducible first | exact HB.out | apply below_alloc | apply pw_below_drewN | apply below_drew1 | refine below_set ?_ GE352.out | refine below_set ?_ GE355.out) | exact HB.out))))
                    have n2_ := Aside0.mk (blk_below (g := gb352) (o := .cells #[.int .i64 a2_0, .int .i64 a2_1] 29 (0, 0)) (by (with_reducible repeat (first | refine blk_drewN ?_ _ | refine blk_drew ?_ | refine blk_alloc ?_ _)); exact BK352.out) hb)
                    have n3_ := Aside0.mk (blk_below (g := gb355) (o := .cells #[.int .i64 (Go.bits .and .i64 a2_0 7), .int .i64 (wrap64 ((Go.bits .and .i64 a2_0 7) + (Go.bits .and .i64 a2_1 7)))] 29 (0, 0)) (by (with_reducible repeat (first | refine blk_drewN ?_ _ | refine blk_drew ?_ | refine blk_alloc ?_ _)); exact BK355.out) hb)
                    have n4_ := Aside0.mk (below_step (by repeat (first | (with_reducible first | exact HB.out | apply below_alloc | apply pw_below_drewN | apply below_drew1 | refine below_set ?_ GE352.out | refine below_set ?_ GE355.out) | exact HB.out)) hb)
                    clear HO_10
                    clear BK352
                    clear BK355
                    clear HB
                    have HO_10 := n0_
                    have HO368 := n1_
                    have BK352 := n2_
                    have BK355 := n3_
                    have HB := n4_
                    clear n0_ n1_ n2_ n3_ n4_
                    (try clear hb)
                    (try clear hb2)
                    (try clear hk)
                    (try clear hi)
                    (try clear ho0)
                    refine hK.out _ _ ⟨HS0_, HS1_, HS2_, HS3_⟩ (fun hHeld => ?_)
                    clear hK K
                    refine norm_ (a' := ?_) ?_ ?_
                    rotate_left
                    · show Act.put _ (some 49) _ = _
                      simp only [Act.put, List.setIfInBounds_toArray, List.set_cons_zero, List.set_cons_succ, i64_w, i32_w]
                      rfl
                    refine one_ (i := 11) (N := some 55) #[true, true, true, true, true, true, true, true, true, true, true, true, false, false] rfl rfl (one_of HT_.out (by kernel_rfl)) (by decide) (fun K hK => ?_)
                    refine goes_ Try.func16 (by kernel_rfl) rfl #[.string (t354 ++ (a1.extract 0 ((ji6) : Int).toNat)), .agg #[.int .i64 ((rd_T29 y362 x11_1).f0), .int .i64 ((rd_T29 y362 x11_1).f1)]] (by rfl) rfl rfl (by (try simp only [List.map_toArray, List.map_cons, List.map_nil]); first | done | (simp only [hji6]; rfl) | rfl | (simp only [List.length_drop, List.length_take]; rfl)) ?_
                    with_reducible refine (abugidaref17_Order.calls k1 (t354 ++ (a1.extract 0 ((ji6) : Int).toNat)) ((rd_T29 y362 x11_1).f0) ((rd_T29 y362 x11_1).f1) t370 _ A31.out).mono ?_
                    rintro e w37 ⟨v371, rfl, ho0, hb⟩
                    have HS0_ := (hb.cell (World.block_lt_of_cell? _ _ (hHeld.1))).trans (hHeld.1)
                    have HS1_ := (hb.cell (World.block_lt_of_cell? _ _ (hHeld.2.1))).trans (hHeld.2.1)
                    have HS2_ := (hb.cell (World.block_lt_of_cell? _ _ (hHeld.2.2.1))).trans (hHeld.2.2.1)
                    have HS3_ := (hb.cell (World.block_lt_of_cell? _ _ (hHeld.2.2.2))).trans (hHeld.2.2.2)
                    refine ⟨_, rfl, ?_⟩
                    have n0_ := Aside0.mk (Kd.R_below (by (with_reducible repeat (first | apply Kd.R_alloc | apply Kd.R_drewN | apply Kd.R_drew)); exact HO_10.out) hb)
                    have n1_ := Aside0.mk (Kd.R_elder' (by (with_reducible repeat (first | apply Kd.R_alloc | apply Kd.R_drewN | apply Kd.R_drew)); exact HO368.out) (Kd.R_base ho0) hb)
                    have n2_ := Aside0.mk (Kd.R_lower (Kd.R_new' ho0 (Kd.R_lt (by (with_reducible repeat (first | apply Kd.R_alloc | apply Kd.R_drewN | apply Kd.R_drew)); exact HO368.out))) (below_size (by repeat (first | (with_reducible first | exact HB.out | apply below_alloc | apply pw_below_drewN | apply below_drew1 | refine below_set ?_ GE352.out | refine below_set ?_ GE355.out) | exact HB.out))))
                    have n3_ := Aside0.mk (blk_below (g := gb352) (o := .cells #[.int .i64 a2_0, .int .i64 a2_1] 29 (0, 0)) (by (with_reducible repeat (first | refine blk_drewN ?_ _ | refine blk_drew ?_ | refine blk_alloc ?_ _)); exact BK352.out) hb)
                    have n4_ := Aside0.mk (blk_below (g := gb355) (o := .cells #[.int .i64 (Go.bits .and .i64 a2_0 7), .int .i64 (wrap64 ((Go.bits .and .i64 a2_0 7) + (Go.bits .and .i64 a2_1 7)))] 29 (0, 0)) (by (with_reducible repeat (first | refine blk_drewN ?_ _ | refine blk_drew ?_ | refine blk_alloc ?_ _)); exact BK355.out) hb)
                    have n5_ := Aside0.mk (below_step (by repeat (first | (with_reducible first | exact HB.out | apply below_alloc | apply pw_below_drewN | apply below_drew1 | refine below_set ?_ GE352.out | refine below_set ?_ GE355.out) | exact HB.out)) hb)
                    clear HO_10
                    clear HO368
                    clear BK352
                    clear BK355
                    clear HB
                    have HO_10 := n0_
                    have HO368 := n1_
                    have HO372 := n2_
                    have BK352 := n3_
                    have BK355 := n4_
                    have HB := n5_
                    clear n0_ n1_ n2_ n3_ n4_ n5_
                    (try clear hb)
                    (try clear hb2)
                    (try clear hk)
                    (try clear hi)
                    (try clear ho0)
                    obtain ⟨Ao38, co38, eo38⟩ := Kd.R_slice HO368.out
                    (first | subst eo38 | (injection eo38 with f1_ f2_ f3_; have f4_ := f1_.symm; have f5_ := f3_.symm; clear f1_ f2_ f3_; subst f4_; subst f5_))
                    obtain ⟨Ao39, co39, eo39⟩ := Kd.R_slice HO372.out
                    (first | subst eo39 | (injection eo39 with f1_ f2_ f3_; have f4_ := f1_.symm; have f5_ := f3_.symm; clear f1_ f2_ f3_; subst f4_; subst f5_))
                    refine hK.out _ _ ⟨HS0_, HS1_, HS2_, HS3_⟩ (fun hHeld => ?_)
                    clear hK K
                    refine norm_ (a' := ?_) ?_ ?_
                    rotate_left
                    · show Act.put _ (some 55) _ = _
                      simp only [Act.put, List.setIfInBounds_toArray, List.set_cons_zero, List.set_cons_succ, i64_w, i32_w]
                      rfl
                    refine one_ (i := 12) (N := some 56) #[true, true, true, true, true, true, true, true, true, true, true, true, true, false] rfl rfl (one_of HT_.out (by kernel_rfl)) (by decide) (fun K hK => ?_)
                    refine goes_ Try.func11 (by kernel_rfl) rfl #[.slice Ao38 t366.length co38, .slice Ao39 t370.length co39] (by rfl) rfl rfl (by (try simp only [List.map_toArray, List.map_cons, List.map_nil]); first | done | rfl | (simp only [List.length_drop, List.length_take]; rfl)) ?_
                    with_reducible refine (abugidalaw17_is.calls k1 _ _ t366 _ _ t370 true _ ?side1 ?side2 ?side3 ?side4 A32.out).mono ?_
                    (case side1 => repeat (first | exact (Kd.R_reads' HO368.out).2.2 | (with_reducible refine Kd.C_alloc ?_ _) | (with_reducible refine Kd.C_drewN ?_ _) | (with_reducible refine Kd.C_drew ?_)))
                    (case side2 => exact (Kd.R_reads' HO368.out).2.1)
                    (case side3 => repeat (first | exact (Kd.R_reads' HO372.out).2.2 | (with_reducible refine Kd.C_alloc ?_ _) | (with_reducible refine Kd.C_drewN ?_ _) | (with_reducible refine Kd.C_drew ?_)))
                    (case side4 => exact (Kd.R_reads' HO372.out).2.1)
                    rintro e w' ⟨rfl, ⟨nd, rfl⟩⟩
                    refine ⟨_, rfl, ?_⟩
                    refine hK.out _ _ ⟨hHeld.1, hHeld.2.1, hHeld.2.2.1, hHeld.2.2.2⟩ (fun hHeld => ?_)
                    clear hK K
                    refine norm_ (a' := ?_) ?_ ?_
                    rotate_left
                    · show Act.put _ (some 56) _ = _
                      simp only [Act.put, List.setIfInBounds_toArray, List.set_cons_zero, List.set_cons_succ, i64_w, i32_w]
                      rfl
                    refine pure_ (i := 13) (N := some 57) (v := ?_) (a' := ?_) #[true, true, true, true, true, true, true, true, true, true, true, true, true, true] rfl rfl (any_of HT_.out (by kernel_rfl)) (fun _ _ _ h => h) (Or.inl ⟨by rfl, ?_⟩) ?_ ?_
                    rotate_left
                    · intro w'
                      go_simp
                      with_reducible rfl
                    rotate_left
                    · simp only [Act.put, List.setIfInBounds_toArray, List.set_cons_zero, List.set_cons_succ, i64_w, i32_w]
                      rfl
                    refine done_ (done_of HT_.out (by kernel_rfl)) ?_
                    try go_wp2
                    go_roundg k1
                    case measure => have := HK1.out; omega
                    case rel => exact ⟨(wrap64 (x11_1 + 1)), (by first | rfl | (simp; done) | (simp [*]; done)), H', ⟨by have := HK1.out; omega⟩, ⟨by (with_reducible repeat (first | apply Kd.R_alloc | apply Kd.R_drewN | apply Kd.R_drew)); exact HO_10.out⟩, ⟨by (with_reducible repeat (first | refine blk_drewN ?_ _ | refine blk_drew ?_ | refine blk_alloc ?_ _)); exact BK352.out⟩, ⟨by (with_reducible repeat (first | refine blk_drewN ?_ _ | refine blk_drew ?_ | refine blk_alloc ?_ _)); exact BK355.out⟩, ⟨by repeat (first | (with_reducible first | exact HB.out | apply below_alloc | apply pw_below_drewN | apply below_drew1 | refine below_set ?_ GE352.out | refine below_set ?_ GE355.out) | exact HB.out)⟩⟩
                  · replace c33 := Bool.eq_false_iff.mpr c33
                    subst c33
                    have H1 : (some false) = some r := by rw [if_neg (show ¬ (false = true) by decide)] at H; exact H
                    clear H
                    have H := H1
                    clear H1
                    obtain rfl := Option.some.inj H
                    obtain ⟨Ao40, co40, eo40⟩ := Kd.R_slice HO_10.out
                    subst eo40
                    try go_wp2
                    have n0_ := Aside0.mk (Kd.R_drew HO_10.out)
                    have n1_ := Aside0.mk (blk_drew BK352.out)
                    have n2_ := Aside0.mk (blk_drew BK355.out)
                    have n3_ := Aside0.mk (below_drew1 HB.out)
                    clear HO_10
                    clear BK352
                    clear BK355
                    clear HB
                    have HO_10 := n0_
                    have BK352 := n1_
                    have BK355 := n2_
                    have HB := n3_
                    clear n0_ n1_ n2_ n3_
                    have p365 : 0 ≤ (x11_1 : Int) := of_decide_eq_true (by first | (with_reducible assumption) | assumption)
                    have q365 : x11_1 < (y362.length : Int) := of_decide_eq_true (by first | (with_reducible assumption) | assumption)
                    obtain ⟨ad365, e365, hx365_0, hx365_1⟩ := at_T29 (Kd.R_reads' HO_10.out).2.2 x11_1 p365 q365
                    cases e365
                    replace p365 := eq_true p365
                    replace q365 := eq_true q365
                    have p369 : 0 ≤ (x11_1 : Int) := of_decide_eq_true (by first | (with_reducible assumption) | assumption)
                    have q369 : x11_1 < (y362.length : Int) := of_decide_eq_true (by first | (with_reducible assumption) | assumption)
                    obtain ⟨ad369, e369, hx369_0, hx369_1⟩ := at_T29 (Kd.R_reads' HO_10.out).2.2 x11_1 p369 q369
                    obtain rfl : ad365 = ad369 := (by injection e369)
                    replace p369 := eq_true p369
                    replace q369 := eq_true q369
                    refine start_ (n := 14) (S := fun w' => w'.cell? (ad365.add ((x11_1).toNat * 2)) = some (.int .i64 ((rd_T29 y362 x11_1).f0)) ∧ w'.cell? ⟨(ad365.add ((x11_1).toNat * 2)).block, (ad365.add ((x11_1).toNat * 2)).off + 1, none⟩ = some (.int .i64 ((rd_T29 y362 x11_1).f1)) ∧ w'.cell? (ad365.add ((x11_1).toNat * 2)) = some (.int .i64 ((rd_T29 y362 x11_1).f0)) ∧ w'.cell? ⟨(ad365.add ((x11_1).toNat * 2)).block, (ad365.add ((x11_1).toNat * 2)).off + 1, none⟩ = some (.int .i64 ((rd_T29 y362 x11_1).f1))) (ds := []) #[false, false, false, false, false, false, false, false, false, false, false, false, false, false] (by kernel_rfl) rfl rfl ⟨hx365_0, hx365_1, hx369_0, hx369_1⟩ (fun hHeld => ?_); refine with_tabW abugidalaw17_FormsOrder.tab8 abugidalaw17_FormsOrder.bits8 (fun HT_ HW_ => ?_)
                    generalize wr.drew = w41 at HO_10 BK352 BK355 HB hx365_0 hx365_1 hx369_0 hx369_1 hHeld ⊢
                    refine pure_ (i := 0) (N := some 44) (v := ?_) (a' := ?_) #[true, false, false, false, false, false, false, false, false, false, false, false, false, false] rfl rfl (any_of HT_.out (by kernel_rfl)) (fun _ _ _ h => h) (Or.inl ⟨by rfl, ?_⟩) ?_ ?_
                    rotate_left
                    · intro w'
                      go_simp
                      with_reducible rfl
                    rotate_left
                    · simp only [Act.put, List.setIfInBounds_toArray, List.set_cons_zero, List.set_cons_succ, i64_w, i32_w]
                      rfl
                    refine pure_ (i := 1) (N := some 45) (v := ?_) (a' := ?_) #[true, true, false, false, false, false, false, false, false, false, false, false, false, false] rfl rfl (any_of HT_.out (by kernel_rfl)) (fun _ _ _ h => h) (Or.inl ⟨by rfl, ?_⟩) ?_ ?_
                    rotate_left
                    · intro w'
                      go_simp
                      with_reducible rfl
                    rotate_left
                    · simp only [Act.put, List.setIfInBounds_toArray, List.set_cons_zero, List.set_cons_succ, i64_w, i32_w]
                      rfl
                    refine pure_ (i := 2) (N := some 46) (v := ?_) (a' := ?_) #[true, true, true, false, false, false, false, false, false, false, false, false, false, false] rfl rfl (any_of HT_.out (by kernel_rfl)) (fun _ _ _ h => h) (Or.inl ⟨by rfl, ?_⟩) ?_ ?_
                    rotate_left
                    · intro w'
                      go_simp
                      with_reducible rfl
                    rotate_left
                    · simp only [Act.put, List.setIfInBounds_toArray, List.set_cons_zero, List.set_cons_succ, i64_w, i32_w]
                      rfl
                    refine pure_ (i := 3) (N := some 47) (v := ?_) (a' := ?_) #[true, true, true, true, false, false, false, false, false, false, false, false, false, false] rfl rfl (any_of HT_.out (by kernel_rfl)) (fun _ _ _ h => h) (Or.inl ⟨by rfl, ?_⟩) ?_ ?_
                    rotate_left
                    · intro w'
                      go_simp
                      with_reducible rfl
                    rotate_left
                    · simp only [Act.put, List.setIfInBounds_toArray, List.set_cons_zero, List.set_cons_succ, i64_w, i32_w]
                      rfl
                    refine pure_ (i := 6) (N := some 50) (v := ?_) (a' := ?_) #[true, true, true, true, false, false, true, false, false, false, false, false, false, false] rfl rfl (any_of HT_.out (by kernel_rfl)) (fun _ _ _ h => h) (Or.inl ⟨by rfl, ?_⟩) ?_ ?_
                    rotate_left
                    · intro w'
                      go_simp
                      with_reducible rfl
                    rotate_left
                    · simp only [Act.put, List.setIfInBounds_toArray, List.set_cons_zero, List.set_cons_succ, i64_w, i32_w]
                      rfl
                    refine pure_ (i := 7) (N := some 51) (v := ?_) (a' := ?_) #[true, true, true, true, false, false, true, true, false, false, false, false, false, false] rfl rfl (any_of HT_.out (by kernel_rfl)) (fun _ _ _ h => h) (Or.inl ⟨by rfl, ?_⟩) ?_ ?_
                    rotate_left
                    · intro w'
                      go_simp
                      with_reducible rfl
                    rotate_left
                    · simp only [Act.put, List.setIfInBounds_toArray, List.set_cons_zero, List.set_cons_succ, i64_w, i32_w]
                      rfl
                    refine pure_ (i := 8) (N := some 52) (v := ?_) (a' := ?_) #[true, true, true, true, false, false, true, true, true, false, false, false, false, false] rfl rfl (any_of HT_.out (by kernel_rfl)) (fun _ _ _ h => h) (Or.inl ⟨by rfl, ?_⟩) ?_ ?_
                    rotate_left
                    · intro w'
                      go_simp
                      with_reducible rfl
                    rotate_left
                    · simp only [Act.put, List.setIfInBounds_toArray, List.set_cons_zero, List.set_cons_succ, i64_w, i32_w]
                      rfl
                    refine pure_ (i := 9) (N := some 53) (v := ?_) (a' := ?_) #[true, true, true, true, false, false, true, true, true, true, false, false, false, false] rfl rfl (any_of HT_.out (by kernel_rfl)) (fun _ _ _ h => h) (Or.inl ⟨by rfl, ?_⟩) ?_ ?_
                    rotate_left
                    · intro w'
                      go_simp
                      with_reducible rfl
                    rotate_left
                    · simp only [Act.put, List.setIfInBounds_toArray, List.set_cons_zero, List.set_cons_succ, i64_w, i32_w]
                      rfl
                    refine take_ (i := 4) (N := some 48) (v := ?_) (a' := ?_) #[true, true, true, true, true, false, true, true, true, true, false, false, false, false] rfl rfl (take_ofW HT_.out HW_.out (by kernel_rfl)) (fun _ _ _ h => h) (Or.inl ⟨by rfl, ?_⟩) hHeld ?_ ?_
                    rotate_left
                    · rintro w' ⟨s0, s1, s2, s3⟩
                      go_simp
                      with_reducible rfl
                    rotate_left
                    · simp only [Act.put, List.setIfInBounds_toArray, List.set_cons_zero, List.set_cons_succ, i64_w, i32_w]
                      rfl
                    refine take_ (i := 10) (N := some 54) (v := ?_) (a' := ?_) #[true, true, true, true, true, false, true, true, true, true, true, false, false, false] rfl rfl (take_ofW HT_.out HW_.out (by kernel_rfl)) (fun _ _ _ h => h) (Or.inl ⟨by rfl, ?_⟩) hHeld ?_ ?_
                    rotate_left
                    · rintro w' ⟨s0, s1, s2, s3⟩
                      go_simp
                      with_reducible rfl
                    rotate_left
                    · simp only [Act.put, List.setIfInBounds_toArray, List.set_cons_zero, List.set_cons_succ, i64_w, i32_w]
                      rfl
                    refine one_ (i := 5) (N := some 49) #[true, true, true, true, true, true, true, true, true, true, true, false, false, false] rfl rfl (one_of HT_.out (by kernel_rfl)) (by decide) (fun K hK => ?_)
                    refine goes_ Try.func15 (by kernel_rfl) rfl #[.string (t354 ++ (a1.extract 0 ((ji6) : Int).toNat)), .agg #[.int .i64 ((rd_T29 y362 x11_1).f0), .int .i64 ((rd_T29 y362 x11_1).f1)]] (by rfl) rfl rfl (by (try simp only [List.map_toArray, List.map_cons, List.map_nil]); first | done | (simp only [hji6]; rfl) | rfl | (simp only [List.length_drop, List.length_take]; rfl)) ?_
                    with_reducible refine (forms_Order.calls k1 (t354 ++ (a1.extract 0 ((ji6) : Int).toNat)) ((rd_T29 y362 x11_1).f0) ((rd_T29 y362 x11_1).f1) t366 _ A30.out).mono ?_
                    rintro e w42 ⟨v367, rfl, ho0, hb⟩
                    have HS0_ := (hb.cell (World.block_lt_of_cell? _ _ (hHeld.1))).trans (hHeld.1)
                    have HS1_ := (hb.cell (World.block_lt_of_cell? _ _ (hHeld.2.1))).trans (hHeld.2.1)
                    have HS2_ := (hb.cell (World.block_lt_of_cell? _ _ (hHeld.2.2.1))).trans (hHeld.2.2.1)
                    have HS3_ := (hb.cell (World.block_lt_of_cell? _ _ (hHeld.2.2.2))).trans (hHeld.2.2.2)
                    refine ⟨_, rfl, ?_⟩
                    have n0_ := Aside0.mk (Kd.R_below (by (with_reducible repeat (first | apply Kd.R_alloc | apply Kd.R_drewN | apply Kd.R_drew)); exact HO_10.out) hb)
                    have n1_ := Aside0.mk (Kd.R_lower ho0 (below_size (by repeat (first | (with_reducible first | exact HB.out | apply below_alloc | apply pw_below_drewN | apply below_drew1 | refine below_set ?_ GE352.out | refine below_set ?_ GE355.out) | exact HB.out))))
                    have n2_ := Aside0.mk (blk_below (g := gb352) (o := .cells #[.int .i64 a2_0, .int .i64 a2_1] 29 (0, 0)) (by (with_reducible repeat (first | refine blk_drewN ?_ _ | refine blk_drew ?_ | refine blk_alloc ?_ _)); exact BK352.out) hb)
                    have n3_ := Aside0.mk (blk_below (g := gb355) (o := .cells #[.int .i64 (Go.bits .and .i64 a2_0 7), .int .i64 (wrap64 ((Go.bits .and .i64 a2_0 7) + (Go.bits .and .i64 a2_1 7)))] 29 (0, 0)) (by (with_reducible repeat (first | refine blk_drewN ?_ _ | refine blk_drew ?_ | refine blk_alloc ?_ _)); exact BK355.out) hb)
                    have n4_ := Aside0.mk (below_step (by repeat (first | (with_reducible first | exact HB.out | apply below_alloc | apply pw_below_drewN | apply below_drew1 | refine below_set ?_ GE352.out | refine below_set ?_ GE355.out) | exact HB.out)) hb)
                    clear HO_10
                    clear BK352
                    clear BK355
                    clear HB
                    have HO_10 := n0_
                    have HO368 := n1_
                    have BK352 := n2_
                    have BK355 := n3_
                    have HB := n4_
                    clear n0_ n1_ n2_ n3_ n4_
                    (try clear hb)
                    (try clear hb2)
                    (try clear hk)
                    (try clear hi)
                    (try clear ho0)
                    refine hK.out _ _ ⟨HS0_, HS1_, HS2_, HS3_⟩ (fun hHeld => ?_)
                    clear hK K
                    refine norm_ (a' := ?_) ?_ ?_
                    rotate_left
                    · show Act.put _ (some 49) _ = _
                      simp only [Act.put, List.setIfInBounds_toArray, List.set_cons_zero, List.set_cons_succ, i64_w, i32_w]
                      rfl
                    refine one_ (i := 11) (N := some 55) #[true, true, true, true, true, true, true, true, true, true, true, true, false, false] rfl rfl (one_of HT_.out (by kernel_rfl)) (by decide) (fun K hK => ?_)
                    refine goes_ Try.func16 (by kernel_rfl) rfl #[.string (t354 ++ (a1.extract 0 ((ji6) : Int).toNat)), .agg #[.int .i64 ((rd_T29 y362 x11_1).f0), .int .i64 ((rd_T29 y362 x11_1).f1)]] (by rfl) rfl rfl (by (try simp only [List.map_toArray, List.map_cons, List.map_nil]); first | done | (simp only [hji6]; rfl) | rfl | (simp only [List.length_drop, List.length_take]; rfl)) ?_
                    with_reducible refine (abugidaref17_Order.calls k1 (t354 ++ (a1.extract 0 ((ji6) : Int).toNat)) ((rd_T29 y362 x11_1).f0) ((rd_T29 y362 x11_1).f1) t370 _ A31.out).mono ?_
                    rintro e w43 ⟨v371, rfl, ho0, hb⟩
                    have HS0_ := (hb.cell (World.block_lt_of_cell? _ _ (hHeld.1))).trans (hHeld.1)
                    have HS1_ := (hb.cell (World.block_lt_of_cell? _ _ (hHeld.2.1))).trans (hHeld.2.1)
                    have HS2_ := (hb.cell (World.block_lt_of_cell? _ _ (hHeld.2.2.1))).trans (hHeld.2.2.1)
                    have HS3_ := (hb.cell (World.block_lt_of_cell? _ _ (hHeld.2.2.2))).trans (hHeld.2.2.2)
                    refine ⟨_, rfl, ?_⟩
                    have n0_ := Aside0.mk (Kd.R_below (by (with_reducible repeat (first | apply Kd.R_alloc | apply Kd.R_drewN | apply Kd.R_drew)); exact HO_10.out) hb)
                    have n1_ := Aside0.mk (Kd.R_elder' (by (with_reducible repeat (first | apply Kd.R_alloc | apply Kd.R_drewN | apply Kd.R_drew)); exact HO368.out) (Kd.R_base ho0) hb)
                    have n2_ := Aside0.mk (Kd.R_lower (Kd.R_new' ho0 (Kd.R_lt (by (with_reducible repeat (first | apply Kd.R_alloc | apply Kd.R_drewN | apply Kd.R_drew)); exact HO368.out))) (below_size (by repeat (first | (with_reducible first | exact HB.out | apply below_alloc | apply pw_below_drewN | apply below_drew1 | refine below_set ?_ GE352.out | refine below_set ?_ GE355.out) | exact HB.out))))
                    have n3_ := Aside0.mk (blk_below (g := gb352) (o := .cells #[.int .i64 a2_0, .int .i64 a2_1] 29 (0, 0)) (by (with_reducible repeat (first | refine blk_drewN ?_ _ | refine blk_drew ?_ | refine blk_alloc ?_ _)); exact BK352.out) hb)
                    have n4_ := Aside0.mk (blk_below (g := gb355) (o := .cells #[.int .i64 (Go.bits .and .i64 a2_0 7), .int .i64 (wrap64 ((Go.bits .and .i64 a2_0 7) + (Go.bits .and .i64 a2_1 7)))] 29 (0, 0)) (by (with_reducible repeat (first | refine blk_drewN ?_ _ | refine blk_drew ?_ | refine blk_alloc ?_ _)); exact BK355.out) hb)
                    have n5_ := Aside0.mk (below_step (by repeat (first | (with_reducible first | exact HB.out | apply below_alloc | apply pw_below_drewN | apply below_drew1 | refine below_set ?_ GE352.out | refine below_set ?_ GE355.out) | exact HB.out)) hb)
                    clear HO_10
                    clear HO368
                    clear BK352
                    clear BK355
                    clear HB
                    have HO_10 := n0_
                    have HO368 := n1_
                    have HO372 := n2_
                    have BK352 := n3_
                    have BK355 := n4_
                    have HB := n5_
                    clear n0_ n1_ n2_ n3_ n4_ n5_
                    (try clear hb)
                    (try clear hb2)
                    (try clear hk)
                    (try clear hi)
                    (try clear ho0)
                    obtain ⟨Ao44, co44, eo44⟩ := Kd.R_slice HO368.out
                    (first | subst eo44 | (injection eo44 with f1_ f2_ f3_; have f4_ := f1_.symm; have f5_ := f3_.symm; clear f1_ f2_ f3_; subst f4_; subst f5_))
                    obtain ⟨Ao45, co45, eo45⟩ := Kd.R_slice HO372.out
                    (first | subst eo45 | (injection eo45 with f1_ f2_ f3_; have f4_ := f1_.symm; have f5_ := f3_.symm; clear f1_ f2_ f3_; subst f4_; subst f5_))
                    refine hK.out _ _ ⟨HS0_, HS1_, HS2_, HS3_⟩ (fun hHeld => ?_)
                    clear hK K
                    refine norm_ (a' := ?_) ?_ ?_
                    rotate_left
                    · show Act.put _ (some 55) _ = _
                      simp only [Act.put, List.setIfInBounds_toArray, List.set_cons_zero, List.set_cons_succ, i64_w, i32_w]
                      rfl
                    refine one_ (i := 12) (N := some 56) #[true, true, true, true, true, true, true, true, true, true, true, true, true, false] rfl rfl (one_of HT_.out (by kernel_rfl)) (by decide) (fun K hK => ?_)
                    refine goes_ Try.func11 (by kernel_rfl) rfl #[.slice Ao44 t366.length co44, .slice Ao45 t370.length co45] (by rfl) rfl rfl (by (try simp only [List.map_toArray, List.map_cons, List.map_nil]); first | done | rfl | (simp only [List.length_drop, List.length_take]; rfl)) ?_
                    with_reducible refine (abugidalaw17_is.calls k1 _ _ t366 _ _ t370 false _ ?side1 ?side2 ?side3 ?side4 A32.out).mono ?_
                    (case side1 => repeat (first | exact (Kd.R_reads' HO368.out).2.2 | (with_reducible refine Kd.C_alloc ?_ _) | (with_reducible refine Kd.C_drewN ?_ _) | (with_reducible refine Kd.C_drew ?_)))
                    (case side2 => exact (Kd.R_reads' HO368.out).2.1)
                    (case side3 => repeat (first | exact (Kd.R_reads' HO372.out).2.2 | (with_reducible refine Kd.C_alloc ?_ _) | (with_reducible refine Kd.C_drewN ?_ _) | (with_reducible refine Kd.C_drew ?_)))
                    (case side4 => exact (Kd.R_reads' HO372.out).2.1)
                    rintro e w' ⟨rfl, ⟨nd, rfl⟩⟩
                    refine ⟨_, rfl, ?_⟩
                    refine hK.out _ _ ⟨hHeld.1, hHeld.2.1, hHeld.2.2.1, hHeld.2.2.2⟩ (fun hHeld => ?_)
                    clear hK K
                    refine norm_ (a' := ?_) ?_ ?_
                    rotate_left
                    · show Act.put _ (some 56) _ = _
                      simp only [Act.put, List.setIfInBounds_toArray, List.set_cons_zero, List.set_cons_succ, i64_w, i32_w]
                      rfl
                    refine pure_ (i := 13) (N := some 57) (v := ?_) (a' := ?_) #[true, true, true, true, true, true, true, true, true, true, true, true, true, true] rfl rfl (any_of HT_.out (by kernel_rfl)) (fun _ _ _ h => h) (Or.inl ⟨by rfl, ?_⟩) ?_ ?_
                    rotate_left
                    · intro w'
                      go_simp
                      with_reducible rfl
                    rotate_left
                    · simp only [Act.put, List.setIfInBounds_toArray, List.set_cons_zero, List.set_cons_succ, i64_w, i32_w]
                      rfl
                    refine done_ (done_of HT_.out (by kernel_rfl)) ?_
                    try go_wp2
                    go_ret
                    exact ⟨by first | rfl | (simp [errW_none, errW_some] <;> rfl) | (simp only [← hji6]; first | rfl | (simp [errW_none, errW_some] <;> rfl)) | (simp [*, errW_none, errW_some] <;> rfl), by repeat (first | (with_reducible first | exact HB.out | apply below_alloc | apply pw_below_drewN | apply below_drew1 | refine below_set ?_ GE352.out | refine below_set ?_ GE355.out) | exact HB.out)⟩
                · rw [if_neg c29] at H
                  exact absurd H (by simp)
              · rw [if_neg c28] at H
                have c28b0 : decide (x11_1 < (y362.length : Int)) = false := decide_eq_false c28
                clear c28
                obtain rfl := Option.some.inj H
                obtain ⟨Ao46, co46, eo46⟩ := Kd.R_slice HO_10.out
                subst eo46
                go_wp2
                go_ret
                exact ⟨by first | rfl | (simp [errW_none, errW_some] <;> rfl) | (simp only [← hji6]; first | rfl | (simp [errW_none, errW_some] <;> rfl)) | (simp [*, errW_none, errW_some] <;> rfl), by repeat (first | (with_reducible first | exact HB.out | apply below_alloc | apply pw_below_drewN | apply below_drew1 | refine below_set ?_ GE352.out | refine below_set ?_ GE355.out) | exact HB.out)⟩
        · rw [if_neg c11] at H
          exact absurd H (by simp)
      · rw [if_neg c9] at H
        exact absurd H (by simp)
    · rw [if_neg c8] at H
      exact absurd H (by simp)
  · rw [if_neg c7] at H
    exact absurd H (by simp)

/-- THE ONE PURE STATEMENT of abugidalaw17_FormsOrder: yours. -/
def abugidalaw17_FormsOrder.Pure : Prop := ∀ (l0 : List Int) (a1 : ByteArray) (a2_0 : Int) (a2_1 : Int), l0.length ≤ maxLen → l0.length * 8 ≤ 140737488351232 → (∀ x ∈ l0, (Lit.int .i64 x).wf = true) → a1.size ≤ 140737488351232 → (Lit.int .i64 a2_0).wf = true → (Lit.int .i64 a2_1).wf = true → ∃ k, abugidalaw17_FormsOrder.f k l0 a1 a2_0 a2_1 = some true
theorem abugidalaw17_FormsOrder.walk (P : abugidalaw17_FormsOrder.Pure) (a0 : Option Addr) (len0 cap0 : Nat) (z0 : List Int) (a1 : ByteArray) (a2_0 : Int) (a2_1 : Int) (w : World) (w0 : (a0 = none ∧ len0 = 0 ∧ cap0 = 0 ∧ z0 = []) ∨ ∃ x, a0 = some x ∧ len0 ≤ cap0 ∧ cap0 ≤ maxLen ∧ z0.length = cap0 ∧ (∀ i, i < z0.length → w.cell? (x.add i) = some (.int .i64 (z0.getD i 0))) ∧ ∀ n ∈ z0, (Lit.int .i64 n).wf = true) (y0 : len0 * 8 ≤ 140737488351232) (w1 : a1.size ≤ 140737488351232) (w2_0 : (Lit.int .i64 a2_0).wf = true) (w2_1 : (Lit.int .i64 a2_1).wf = true) :
    Calls Try.prog 4 #[.slice a0 len0 cap0, .string a1, .agg #[.int .i64 a2_0, .int .i64 a2_1]] w fun e w' => e = .returned (.bool true) ∧ Below w.heap.size w w' := by
  obtain ⟨l0, rfl, hr0, hm0, hw0, hc0⟩ := ReadsInt.ofRowC w0
  obtain ⟨k, h⟩ := P l0 a1 a2_0 a2_1 hm0 y0 hw0 w1 w2_0 w2_1
  refine (abugidalaw17_FormsOrder.calls k _ _ l0 a1 a2_0 a2_1 true w (Kd.C_of_reads (d := (0 : Int)) (h1 := fun _ => rfl) hr0) hc0 h).mono ?_
  rintro e w' ⟨rfl, hd⟩
  exact ⟨rfl, hd⟩

end Go.Proofs.Ytgpdieogkcnfeaa.Q

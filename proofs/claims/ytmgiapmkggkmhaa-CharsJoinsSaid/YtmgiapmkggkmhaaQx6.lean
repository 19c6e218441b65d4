-- Written by wip/tools/myprint.py, a program of this session that drives the kit's print.py; not a text of print.sh.
import Derived.Test.YtmgiapmkggkmhaaQx0
import Derived.Test.YtmgiapmkggkmhaaQx2
import Derived.Test.YtmgiapmkggkmhaaQx3
namespace Go.Proofs.Ytmgiapmkggkmhaa.Q
open Go.RowKit Go.Proofs.YtmgiapmkggkmhaaW.PrintWords Go.Proofs.YtmgiapmkggkmhaaW.PrintLast Go.Proofs.YtmgiapmkggkmhaaW.PrintMore
attribute [local go_sem] max2_int min2_int max_two min_two max_three min_three max_four min_four   -- for this text's walks alone
set_option linter.unusedVariables false
set_option linter.unusedSimpArgs false

/-! ### abugidalaw05_CharsJoins: function 7 -/
def abugidalaw05_CharsJoins.j0 : Nat → Bool → Int → Bool → Bool → Bool → Option (Bool)
  | 0, _, _, _, _, _ => none
  | k + 1, x3, x4, x5, x6, x7 => (chars_Strong.f k x4).bind fun t206 => ((chars_Script.f k x4).bind fun t207 => (if t207 = 0 then ((chars_Class.f k x4).bind fun t208 => (if x3 = true then (if x7 = true then (if x6 = true then (if x5 = true then (if ((t206 != 0) == (t208 == 3)) = true then ((chars_Script.f k x4).bind fun t209 => (if t209 = 2 then (some true) else (some true))) else (some false)) else (some false)) else (if ((t206 != 0) == (t208 == 3)) = true then ((chars_Script.f k x4).bind fun t210 => (if t210 = 2 then (if x5 = true then (some true) else ((chars_Class.f k x4).bind fun t211 => (some (t211 == 6)))) else (some true))) else (some false))) else (some false)) else (some false))) else (if x3 = true then (if x7 = true then (if x6 = true then (if x5 = true then (if ((t206 != 0) == true) = true then ((chars_Script.f k x4).bind fun t212 => (if t212 = 2 then (some true) else (some true))) else (some false)) else (some false)) else (if ((t206 != 0) == true) = true then ((chars_Script.f k x4).bind fun t213 => (if t213 = 2 then (if x5 = true then (some true) else ((chars_Class.f k x4).bind fun t214 => (some (t214 == 6)))) else (some true))) else (some false))) else (some false)) else (some false))))
def abugidalaw05_CharsJoins.f (k : Nat) (a0 : Int) : Option (Bool) := (abugidalaw05_sanity.f k).bind fun t200 => ((chars_Joins.f k (Go.bits .and .i64 a0 255)).bind fun bt201 => (if bt201.1 = true then ((chars_Script.f k (Go.bits .and .i64 a0 255)).bind fun t203 => (if t203 = 2 then ((chars_Extends.f k (Go.bits .and .i64 a0 255)).bind fun t204 => (if t204 = true then (abugidalaw05_CharsJoins.j0 k t200 (Go.bits .and .i64 a0 255) bt201.1 bt201.2 false) else ((chars_Strong.f k (Go.bits .and .i64 a0 255)).bind fun t205 => (abugidalaw05_CharsJoins.j0 k t200 (Go.bits .and .i64 a0 255) bt201.1 bt201.2 (t205 == 2))))) else (abugidalaw05_CharsJoins.j0 k t200 (Go.bits .and .i64 a0 255) bt201.1 bt201.2 false))) else (abugidalaw05_CharsJoins.j0 k t200 (Go.bits .and .i64 a0 255) bt201.1 bt201.2 true)))
theorem abugidalaw05_CharsJoins.mono_l : ∀ k, (∀ y0 y1 y2 y3 y4, LeO (abugidalaw05_CharsJoins.j0 k y0 y1 y2 y3 y4) (abugidalaw05_CharsJoins.j0 (k + 1) y0 y1 y2 y3 y4))
  | 0 => fun _ _ _ _ _ r h => by simp [abugidalaw05_CharsJoins.j0] at h
  | k + 1 => by
    have ih0 := abugidalaw05_CharsJoins.mono_l k
    · intro y0 y1 y2 y3 y4
      unfold abugidalaw05_CharsJoins.j0
      repeat' first
      | (with_reducible exact ih0 _ _ _ _ _)
      | (with_reducible exact abugidalaw05_sanity.mono _)
      | (with_reducible exact chars_Class.mono _ _)
      | (with_reducible exact chars_Extends.mono _ _)
      | (with_reducible exact chars_Joins.mono _ _)
      | (with_reducible exact chars_Script.mono _ _)
      | (with_reducible exact chars_Strong.mono _ _)
      | (with_reducible exact LeO.refl _)
      | (with_reducible exact LeO.none _)
      | (with_reducible refine LeO.ite ?_ ?_)
      | (with_reducible refine LeO.bind ?_ (fun _ => ?_))
      | exact ih0 _ _ _ _ _
      | exact abugidalaw05_sanity.mono _
      | exact chars_Class.mono _ _
      | exact chars_Extends.mono _ _
      | exact chars_Joins.mono _ _
      | exact chars_Script.mono _ _
      | exact chars_Strong.mono _ _
      | exact LeO.none _
      | refine LeO.ite ?_ ?_
      | refine LeO.bind ?_ (fun _ => ?_)
theorem abugidalaw05_CharsJoins.mono : ∀ a0 k, LeO (abugidalaw05_CharsJoins.f k a0) (abugidalaw05_CharsJoins.f (k + 1) a0) := by
  intro a0 k
  have ih0 := abugidalaw05_CharsJoins.mono_l k
  unfold abugidalaw05_CharsJoins.f
  repeat' first
      | (with_reducible exact ih0 _ _ _ _ _)
      | (with_reducible exact abugidalaw05_sanity.mono _)
      | (with_reducible exact chars_Class.mono _ _)
      | (with_reducible exact chars_Extends.mono _ _)
      | (with_reducible exact chars_Joins.mono _ _)
      | (with_reducible exact chars_Script.mono _ _)
      | (with_reducible exact chars_Strong.mono _ _)
      | (with_reducible exact LeO.refl _)
      | (with_reducible exact LeO.none _)
      | (with_reducible refine LeO.ite ?_ ?_)
      | (with_reducible refine LeO.bind ?_ (fun _ => ?_))
      | exact ih0 _ _ _ _ _
      | exact abugidalaw05_sanity.mono _
      | exact chars_Class.mono _ _
      | exact chars_Extends.mono _ _
      | exact chars_Joins.mono _ _
      | exact chars_Script.mono _ _
      | exact chars_Strong.mono _ _
      | exact LeO.none _
      | refine LeO.ite ?_ ?_
      | refine LeO.bind ?_ (fun _ => ?_)
set_option maxHeartbeats 8000000 in
set_option maxRecDepth 100000 in
theorem abugidalaw05_CharsJoins.calls (k : Nat) (a0 : Int) (r : Bool) (w : World) (h : abugidalaw05_CharsJoins.f k a0 = some r) :
    Calls Try.prog 7 #[.int .i64 a0] w fun e w' => e = .returned (.bool r) ∧ Below w.heap.size w w' := by
  have HB := Aside0.mk (Below.refl w.heap.size w)
  have H : ((abugidalaw05_sanity.f k).bind fun t200 => ((chars_Joins.f k (Go.bits .and .i64 a0 255)).bind fun bt201 => (if bt201.1 = true then ((chars_Script.f k (Go.bits .and .i64 a0 255)).bind fun t203 => (if t203 = 2 then ((chars_Extends.f k (Go.bits .and .i64 a0 255)).bind fun t204 => (if t204 = true then (abugidalaw05_CharsJoins.j0 k t200 (Go.bits .and .i64 a0 255) bt201.1 bt201.2 false) else ((chars_Strong.f k (Go.bits .and .i64 a0 255)).bind fun t205 => (abugidalaw05_CharsJoins.j0 k t200 (Go.bits .and .i64 a0 255) bt201.1 bt201.2 (t205 == 2))))) else (abugidalaw05_CharsJoins.j0 k t200 (Go.bits .and .i64 a0 255) bt201.1 bt201.2 false))) else (abugidalaw05_CharsJoins.j0 k t200 (Go.bits .and .i64 a0 255) bt201.1 bt201.2 true)))) = some r := h
  clear h
  replace H := Option.bind_eq_some_iff.mp H
  obtain ⟨t200, A20, H⟩ := H
  replace H : ((chars_Joins.f k (Go.bits .and .i64 a0 255)).bind fun bt201 => (if bt201.1 = true then ((chars_Script.f k (Go.bits .and .i64 a0 255)).bind fun t203 => (if t203 = 2 then ((chars_Extends.f k (Go.bits .and .i64 a0 255)).bind fun t204 => (if t204 = true then (abugidalaw05_CharsJoins.j0 k t200 (Go.bits .and .i64 a0 255) bt201.1 bt201.2 false) else ((chars_Strong.f k (Go.bits .and .i64 a0 255)).bind fun t205 => (abugidalaw05_CharsJoins.j0 k t200 (Go.bits .and .i64 a0 255) bt201.1 bt201.2 (t205 == 2))))) else (abugidalaw05_CharsJoins.j0 k t200 (Go.bits .and .i64 a0 255) bt201.1 bt201.2 false))) else (abugidalaw05_CharsJoins.j0 k t200 (Go.bits .and .i64 a0 255) bt201.1 bt201.2 true))) = some r := H
  have A2 := Aside0.mk A20
  clear A20
  replace H := Option.bind_eq_some_iff.mp H
  obtain ⟨⟨t201, t202⟩, A30, H⟩ := H
  replace H : (if t201 = true then ((chars_Script.f k (Go.bits .and .i64 a0 255)).bind fun t203 => (if t203 = 2 then ((chars_Extends.f k (Go.bits .and .i64 a0 255)).bind fun t204 => (if t204 = true then (abugidalaw05_CharsJoins.j0 k t200 (Go.bits .and .i64 a0 255) t201 t202 false) else ((chars_Strong.f k (Go.bits .and .i64 a0 255)).bind fun t205 => (abugidalaw05_CharsJoins.j0 k t200 (Go.bits .and .i64 a0 255) t201 t202 (t205 == 2))))) else (abugidalaw05_CharsJoins.j0 k t200 (Go.bits .and .i64 a0 255) t201 t202 false))) else (abugidalaw05_CharsJoins.j0 k t200 (Go.bits .and .i64 a0 255) t201 t202 true)) = some r := H
  have A3 := Aside0.mk A30
  clear A30
  have HC4 := Aside0.mk H
  clear H
  go_enter Try.func7, Try.ntmps7
  go_upto_region 4 with (first | ((with_reducible refine gate_callee (f := 8) rfl ?_); refine goesL_ (some 9) rfl rfl Try.func8 (by kernel_rfl) rfl #[] rfl (by (try simp only [List.map_toArray, List.map_cons, List.map_nil]); first | done | rfl | (simp only [List.length_drop, List.length_take]; rfl)) ?_; (with_reducible refine (abugidalaw05_sanity.calls k  t200 _ A2.out).mono ?_); rintro e w5 ⟨rfl, hb⟩; refine ⟨_, rfl, ?_⟩; have n0_ := Aside0.mk (below_step (by repeat (first | (with_reducible first | exact HB.out | apply below_alloc | apply pw_below_drewN | apply below_drew1) | exact HB.out)) hb); clear HB; have HB := n0_; clear n0_; (try clear hb); (try clear hb2); (try clear hk); (try clear hi)) | ((with_reducible refine gate_callee (f := 9) rfl ?_); refine goesL_ (some 14) rfl rfl Try.func9 (by kernel_rfl) rfl #[.int .i64 (Go.bits .and .i64 a0 255)] rfl (by (try simp only [List.map_toArray, List.map_cons, List.map_nil]); first | done | rfl | (simp only [List.length_drop, List.length_take]; rfl)) ?_; (with_reducible refine (chars_Joins.calls k (Go.bits .and .i64 a0 255) t201 t202 _ A3.out).mono ?_); rintro e w6 ⟨rfl, hb⟩; refine ⟨_, rfl, ?_⟩; have n0_ := Aside0.mk (below_step (by repeat (first | (with_reducible first | exact HB.out | apply below_alloc | apply pw_below_drewN | apply below_drew1) | exact HB.out)) hb); clear HB; have HB := n0_; clear n0_; (try clear hb); (try clear hb2); (try clear hk); (try clear hi)))
  (try simp only [Act.put, List.setIfInBounds_toArray, List.set_cons_zero, List.set_cons_succ])
  go_cut [7] (fun v7 wc => ∃ (kq : Nat) (x7_3 : Bool), v7 = .bool x7_3 ∧ Aside0 (abugidalaw05_CharsJoins.j0 kq t200 (Go.bits .and .i64 a0 255) t201 t202 x7_3 = some r) ∧ Aside0 (kq ≤ k) ∧ Aside0 (Below w.heap.size w wc))
  case first =>
    have H := HC4.out
    clear HC4
    by_cases c7 : t201 = true
    · subst c7
      have H1 : ((chars_Script.f k (Go.bits .and .i64 a0 255)).bind fun t203 => (if t203 = 2 then ((chars_Extends.f k (Go.bits .and .i64 a0 255)).bind fun t204 => (if t204 = true then (abugidalaw05_CharsJoins.j0 k t200 (Go.bits .and .i64 a0 255) true t202 false) else ((chars_Strong.f k (Go.bits .and .i64 a0 255)).bind fun t205 => (abugidalaw05_CharsJoins.j0 k t200 (Go.bits .and .i64 a0 255) true t202 (t205 == 2))))) else (abugidalaw05_CharsJoins.j0 k t200 (Go.bits .and .i64 a0 255) true t202 false))) = some r := by rw [if_pos rfl] at H; exact H
      clear H
      have H := H1
      clear H1
      replace H := Option.bind_eq_some_iff.mp H
      obtain ⟨t203, A80, H⟩ := H
      replace H : (if t203 = 2 then ((chars_Extends.f k (Go.bits .and .i64 a0 255)).bind fun t204 => (if t204 = true then (abugidalaw05_CharsJoins.j0 k t200 (Go.bits .and .i64 a0 255) true t202 false) else ((chars_Strong.f k (Go.bits .and .i64 a0 255)).bind fun t205 => (abugidalaw05_CharsJoins.j0 k t200 (Go.bits .and .i64 a0 255) true t202 (t205 == 2))))) else (abugidalaw05_CharsJoins.j0 k t200 (Go.bits .and .i64 a0 255) true t202 false)) = some r := H
      have A8 := Aside0.mk A80
      clear A80
      by_cases c9 : t203 = 2
      · rw [if_pos c9] at H
        have c9b0 : (t203 == 2) = true := beq_iff_eq.mpr c9
        have c9b1 : (t203 != 2) = false := bne_eq_false_iff_eq.mpr c9
        clear c9
        (first | rw [c9b0] | (simp only [i64_w, i32_w]; rw [c9b0]) | skip)
        replace H := Option.bind_eq_some_iff.mp H
        obtain ⟨t204, A100, H⟩ := H
        replace H : (if t204 = true then (abugidalaw05_CharsJoins.j0 k t200 (Go.bits .and .i64 a0 255) true t202 false) else ((chars_Strong.f k (Go.bits .and .i64 a0 255)).bind fun t205 => (abugidalaw05_CharsJoins.j0 k t200 (Go.bits .and .i64 a0 255) true t202 (t205 == 2)))) = some r := H
        have A10 := Aside0.mk A100
        clear A100
        by_cases c11 : t204 = true
        · subst c11
          have H1 : (abugidalaw05_CharsJoins.j0 k t200 (Go.bits .and .i64 a0 255) true t202 false) = some r := by rw [if_pos rfl] at H; exact H
          clear H
          have H := H1
          clear H1
          have H' := Aside0.mk H
          clear H
          go_wp2_with (first | (go_at_call 18; (with_reducible refine (chars_Script.calls k (Go.bits .and .i64 a0 255) t203 _ A8.out).mono ?_); rintro e w12 ⟨rfl, hb⟩; have n0_ := Aside0.mk (below_step (by repeat (first | (with_reducible first | exact HB.out | apply below_alloc | apply pw_below_drewN | apply below_drew1) | exact HB.out)) hb); clear HB; have HB := n0_; clear n0_; (try clear hb); (try clear hb2); (try clear hk); (try clear hi)) | (go_at_call 21; (with_reducible refine (chars_Extends.calls k (Go.bits .and .i64 a0 255) true _ A10.out).mono ?_); rintro e w13 ⟨rfl, hb⟩; have n0_ := Aside0.mk (below_step (by repeat (first | (with_reducible first | exact HB.out | apply below_alloc | apply pw_below_drewN | apply below_drew1) | exact HB.out)) hb); clear HB; have HB := n0_; clear n0_; (try clear hb); (try clear hb2); (try clear hk); (try clear hi)))
          go_meet
          case rel => exact ⟨_, (false), (by first | rfl | (simp; done) | (simp [*]; done)), H', ⟨by first | omega | exact Nat.le_refl _⟩, ⟨by repeat (first | (with_reducible first | exact HB.out | apply below_alloc | apply pw_below_drewN | apply below_drew1) | exact HB.out)⟩⟩
        · replace c11 := Bool.eq_false_iff.mpr c11
          subst c11
          have H1 : ((chars_Strong.f k (Go.bits .and .i64 a0 255)).bind fun t205 => (abugidalaw05_CharsJoins.j0 k t200 (Go.bits .and .i64 a0 255) true t202 (t205 == 2))) = some r := by rw [if_neg (show ¬ (false = true) by decide)] at H; exact H
          clear H
          have H := H1
          clear H1
          replace H := Option.bind_eq_some_iff.mp H
          obtain ⟨t205, A140, H⟩ := H
          replace H : (abugidalaw05_CharsJoins.j0 k t200 (Go.bits .and .i64 a0 255) true t202 (t205 == 2)) = some r := H
          have A14 := Aside0.mk A140
          clear A140
          have H' := Aside0.mk H
          clear H
          go_wp2_with (first | (go_at_call 18; (with_reducible refine (chars_Script.calls k (Go.bits .and .i64 a0 255) t203 _ A8.out).mono ?_); rintro e w15 ⟨rfl, hb⟩; have n0_ := Aside0.mk (below_step (by repeat (first | (with_reducible first | exact HB.out | apply below_alloc | apply pw_below_drewN | apply below_drew1) | exact HB.out)) hb); clear HB; have HB := n0_; clear n0_; (try clear hb); (try clear hb2); (try clear hk); (try clear hi)) | (go_at_call 21; (with_reducible refine (chars_Extends.calls k (Go.bits .and .i64 a0 255) false _ A10.out).mono ?_); rintro e w16 ⟨rfl, hb⟩; have n0_ := Aside0.mk (below_step (by repeat (first | (with_reducible first | exact HB.out | apply below_alloc | apply pw_below_drewN | apply below_drew1) | exact HB.out)) hb); clear HB; have HB := n0_; clear n0_; (try clear hb); (try clear hb2); (try clear hk); (try clear hi)) | (go_at_call 20; (with_reducible refine (chars_Strong.calls k (Go.bits .and .i64 a0 255) t205 _ A14.out).mono ?_); rintro e w17 ⟨rfl, hb⟩; have n0_ := Aside0.mk (below_step (by repeat (first | (with_reducible first | exact HB.out | apply below_alloc | apply pw_below_drewN | apply below_drew1) | exact HB.out)) hb); clear HB; have HB := n0_; clear n0_; (try clear hb); (try clear hb2); (try clear hk); (try clear hi)))
          go_meet
          case rel => exact ⟨_, ((t205 == 2)), (by first | rfl | (simp; done) | (simp [*]; done)), H', ⟨by first | omega | exact Nat.le_refl _⟩, ⟨by repeat (first | (with_reducible first | exact HB.out | apply below_alloc | apply pw_below_drewN | apply below_drew1) | exact HB.out)⟩⟩
      · rw [if_neg c9] at H
        have c9b0 : (t203 == 2) = false := beq_eq_false_iff_ne.mpr c9
        have c9b1 : (t203 != 2) = true := bne_iff_ne.mpr c9
        (first | rw [c9b0] | (simp only [i64_w, i32_w]; rw [c9b0]) | skip)
        have H' := Aside0.mk H
        clear H
        go_wp2_with (first | (go_at_call 18; (with_reducible refine (chars_Script.calls k (Go.bits .and .i64 a0 255) t203 _ A8.out).mono ?_); rintro e w18 ⟨rfl, hb⟩; have n0_ := Aside0.mk (below_step (by repeat (first | (with_reducible first | exact HB.out | apply below_alloc | apply pw_below_drewN | apply below_drew1) | exact HB.out)) hb); clear HB; have HB := n0_; clear n0_; (try clear hb); (try clear hb2); (try clear hk); (try clear hi)))
        go_meet
        case rel => exact ⟨_, (false), (by first | rfl | (simp; done) | (simp [*]; done)), H', ⟨by first | omega | exact Nat.le_refl _⟩, ⟨by repeat (first | (with_reducible first | exact HB.out | apply below_alloc | apply pw_below_drewN | apply below_drew1) | exact HB.out)⟩⟩
    · replace c7 := Bool.eq_false_iff.mpr c7
      subst c7
      have H1 : (abugidalaw05_CharsJoins.j0 k t200 (Go.bits .and .i64 a0 255) false t202 true) = some r := by rw [if_neg (show ¬ (false = true) by decide)] at H; exact H
      clear H
      have H := H1
      clear H1
      have H' := Aside0.mk H
      clear H
      go_wp2
      go_meet
      case rel => exact ⟨_, (true), (by first | rfl | (simp; done) | (simp [*]; done)), H', ⟨by first | omega | exact Nat.le_refl _⟩, ⟨by repeat (first | (with_reducible first | exact HB.out | apply below_alloc | apply pw_below_drewN | apply below_drew1) | exact HB.out)⟩⟩
  case rest =>
    clear HC4
    try clear c1
    try clear p2
    try clear c7
    try clear c8
    try clear c9
    try clear c9b0
    try clear c9b1
    try clear c11
    obtain ⟨kq, x7_3, rfl, HA, HJ3, HB⟩ := hcut
    cases kq with
    | zero => exact absurd HA.out (by simp [abugidalaw05_CharsJoins.j0])
    | succ kj3 =>
      have H := HA.out
      clear HA
      simp only [abugidalaw05_CharsJoins.j0] at H
      replace H := Option.bind_eq_some_iff.mp H
      obtain ⟨t206, A190, H⟩ := H
      replace H : ((chars_Script.f kj3 (Go.bits .and .i64 a0 255)).bind fun t207 => (if t207 = 0 then ((chars_Class.f kj3 (Go.bits .and .i64 a0 255)).bind fun t208 => (if t200 = true then (if x7_3 = true then (if t202 = true then (if t201 = true then (if ((t206 != 0) == (t208 == 3)) = true then ((chars_Script.f kj3 (Go.bits .and .i64 a0 255)).bind fun t209 => (if t209 = 2 then (some true) else (some true))) else (some false)) else (some false)) else (if ((t206 != 0) == (t208 == 3)) = true then ((chars_Script.f kj3 (Go.bits .and .i64 a0 255)).bind fun t210 => (if t210 = 2 then (if t201 = true then (some true) else ((chars_Class.f kj3 (Go.bits .and .i64 a0 255)).bind fun t211 => (some (t211 == 6)))) else (some true))) else (some false))) else (some false)) else (some false))) else (if t200 = true then (if x7_3 = true then (if t202 = true then (if t201 = true then (if ((t206 != 0) == true) = true then ((chars_Script.f kj3 (Go.bits .and .i64 a0 255)).bind fun t212 => (if t212 = 2 then (some true) else (some true))) else (some false)) else (some false)) else (if ((t206 != 0) == true) = true then ((chars_Script.f kj3 (Go.bits .and .i64 a0 255)).bind fun t213 => (if t213 = 2 then (if t201 = true then (some true) else ((chars_Class.f kj3 (Go.bits .and .i64 a0 255)).bind fun t214 => (some (t214 == 6)))) else (some true))) else (some false))) else (some false)) else (some false)))) = some r := H
      have A19 := Aside0.mk A190
      clear A190
      replace H := Option.bind_eq_some_iff.mp H
      obtain ⟨t207, A200, H⟩ := H
      replace H : (if t207 = 0 then ((chars_Class.f kj3 (Go.bits .and .i64 a0 255)).bind fun t208 => (if t200 = true then (if x7_3 = true then (if t202 = true then (if t201 = true then (if ((t206 != 0) == (t208 == 3)) = true then ((chars_Script.f kj3 (Go.bits .and .i64 a0 255)).bind fun t209 => (if t209 = 2 then (some true) else (some true))) else (some false)) else (some false)) else (if ((t206 != 0) == (t208 == 3)) = true then ((chars_Script.f kj3 (Go.bits .and .i64 a0 255)).bind fun t210 => (if t210 = 2 then (if t201 = true then (some true) else ((chars_Class.f kj3 (Go.bits .and .i64 a0 255)).bind fun t211 => (some (t211 == 6)))) else (some true))) else (some false))) else (some false)) else (some false))) else (if t200 = true then (if x7_3 = true then (if t202 = true then (if t201 = true then (if ((t206 != 0) == true) = true then ((chars_Script.f kj3 (Go.bits .and .i64 a0 255)).bind fun t212 => (if t212 = 2 then (some true) else (some true))) else (some false)) else (some false)) else (if ((t206 != 0) == true) = true then ((chars_Script.f kj3 (Go.bits .and .i64 a0 255)).bind fun t213 => (if t213 = 2 then (if t201 = true then (some true) else ((chars_Class.f kj3 (Go.bits .and .i64 a0 255)).bind fun t214 => (some (t214 == 6)))) else (some true))) else (some false))) else (some false)) else (some false))) = some r := H
      have A20 := Aside0.mk A200
      clear A200
      by_cases c21 : t207 = 0
      · rw [if_pos c21] at H
        have c21b0 : (t207 == 0) = true := beq_iff_eq.mpr c21
        have c21b1 : (t207 != 0) = false := bne_eq_false_iff_eq.mpr c21
        clear c21
        replace H := Option.bind_eq_some_iff.mp H
        obtain ⟨t208, A220, H⟩ := H
        replace H : (if t200 = true then (if x7_3 = true then (if t202 = true then (if t201 = true then (if ((t206 != 0) == (t208 == 3)) = true then ((chars_Script.f kj3 (Go.bits .and .i64 a0 255)).bind fun t209 => (if t209 = 2 then (some true) else (some true))) else (some false)) else (some false)) else (if ((t206 != 0) == (t208 == 3)) = true then ((chars_Script.f kj3 (Go.bits .and .i64 a0 255)).bind fun t210 => (if t210 = 2 then (if t201 = true then (some true) else ((chars_Class.f kj3 (Go.bits .and .i64 a0 255)).bind fun t211 => (some (t211 == 6)))) else (some true))) else (some false))) else (some false)) else (some false)) = some r := H
        have A22 := Aside0.mk A220
        clear A220
        by_cases c23 : t200 = true
        · subst c23
          have H1 : (if x7_3 = true then (if t202 = true then (if t201 = true then (if ((t206 != 0) == (t208 == 3)) = true then ((chars_Script.f kj3 (Go.bits .and .i64 a0 255)).bind fun t209 => (if t209 = 2 then (some true) else (some true))) else (some false)) else (some false)) else (if ((t206 != 0) == (t208 == 3)) = true then ((chars_Script.f kj3 (Go.bits .and .i64 a0 255)).bind fun t210 => (if t210 = 2 then (if t201 = true then (some true) else ((chars_Class.f kj3 (Go.bits .and .i64 a0 255)).bind fun t211 => (some (t211 == 6)))) else (some true))) else (some false))) else (some false)) = some r := by rw [if_pos rfl] at H; exact H
          clear H
          have H := H1
          clear H1
          by_cases c24 : x7_3 = true
          · subst c24
            have H1 : (if t202 = true then (if t201 = true then (if ((t206 != 0) == (t208 == 3)) = true then ((chars_Script.f kj3 (Go.bits .and .i64 a0 255)).bind fun t209 => (if t209 = 2 then (some true) else (some true))) else (some false)) else (some false)) else (if ((t206 != 0) == (t208 == 3)) = true then ((chars_Script.f kj3 (Go.bits .and .i64 a0 255)).bind fun t210 => (if t210 = 2 then (if t201 = true then (some true) else ((chars_Class.f kj3 (Go.bits .and .i64 a0 255)).bind fun t211 => (some (t211 == 6)))) else (some true))) else (some false))) = some r := by rw [if_pos rfl] at H; exact H
            clear H
            have H := H1
            clear H1
            by_cases c25 : t202 = true
            · subst c25
              have H1 : (if t201 = true then (if ((t206 != 0) == (t208 == 3)) = true then ((chars_Script.f kj3 (Go.bits .and .i64 a0 255)).bind fun t209 => (if t209 = 2 then (some true) else (some true))) else (some false)) else (some false)) = some r := by rw [if_pos rfl] at H; exact H
              clear H
              have H := H1
              clear H1
              by_cases c26 : t201 = true
              · subst c26
                have H1 : (if ((t206 != 0) == (t208 == 3)) = true then ((chars_Script.f kj3 (Go.bits .and .i64 a0 255)).bind fun t209 => (if t209 = 2 then (some true) else (some true))) else (some false)) = some r := by rw [if_pos rfl] at H; exact H
                clear H
                have H := H1
                clear H1
                by_cases c27 : ((t206 != 0) == (t208 == 3)) = true
                · rw [if_pos c27] at H
                  have c27b0 : ((t206 != 0) == (t208 == 3)) = true := c27
                  (try (have c27b1 : decide ((t206 != 0) = (t208 == 3)) = true := by simpa using c27))
                  (try (have c27b2 : ((t206 != 0) == (t208 == 3)) = true := by simpa using c27))
                  clear c27
                  replace H := Option.bind_eq_some_iff.mp H
                  obtain ⟨t209, A280, H⟩ := H
                  replace H : (if t209 = 2 then (some true) else (some true)) = some r := H
                  have A28 := Aside0.mk A280
                  clear A280
                  have EA28 : t207 = t209 := Option.some.inj (A20.out.symm.trans A28.out)
                  obtain rfl := EA28
                  by_cases c29 : t207 = 2
                  · rw [if_pos c29] at H
                    have c29b0 : (t207 == 2) = true := beq_iff_eq.mpr c29
                    have c29b1 : (t207 != 2) = false := bne_eq_false_iff_eq.mpr c29
                    clear c29
                    obtain rfl := Option.some.inj H
                    go_wp2_with (first | ((with_reducible refine gate_callee (f := 20) rfl ?_); refine goesL_ (some 35) rfl rfl Try.func20 (by kernel_rfl) rfl #[.int .i64 (Go.bits .and .i64 a0 255)] rfl (by (try simp only [List.map_toArray, List.map_cons, List.map_nil]); first | done | rfl | (simp only [List.length_drop, List.length_take]; rfl)) ?_; (with_reducible refine (chars_Strong.calls kj3 (Go.bits .and .i64 a0 255) t206 _ A19.out).mono ?_); rintro e w30 ⟨rfl, hb⟩; refine ⟨_, rfl, ?_⟩; have n0_ := Aside0.mk (below_step (by repeat (first | (with_reducible first | exact HB.out | apply below_alloc | apply pw_below_drewN | apply below_drew1) | exact HB.out)) hb); clear HB; have HB := n0_; clear n0_; (try clear hb); (try clear hb2); (try clear hk); (try clear hi)) | ((with_reducible refine gate_callee (f := 18) rfl ?_); refine goesL_ (some 38) rfl rfl Try.func18 (by kernel_rfl) rfl #[.int .i64 (Go.bits .and .i64 a0 255)] rfl (by (try simp only [List.map_toArray, List.map_cons, List.map_nil]); first | done | rfl | (simp only [List.length_drop, List.length_take]; rfl)) ?_; (with_reducible refine (chars_Script.calls kj3 (Go.bits .and .i64 a0 255) t207 _ A20.out).mono ?_); rintro e w31 ⟨rfl, hb⟩; refine ⟨_, rfl, ?_⟩; have n0_ := Aside0.mk (below_step (by repeat (first | (with_reducible first | exact HB.out | apply below_alloc | apply pw_below_drewN | apply below_drew1) | exact HB.out)) hb); clear HB; have HB := n0_; clear n0_; (try clear hb); (try clear hb2); (try clear hk); (try clear hi)) | (go_at_call 19; (with_reducible refine (chars_Class.calls kj3 (Go.bits .and .i64 a0 255) t208 _ A22.out).mono ?_); rintro e w32 ⟨rfl, hb⟩; have n0_ := Aside0.mk (below_step (by repeat (first | (with_reducible first | exact HB.out | apply below_alloc | apply pw_below_drewN | apply below_drew1) | exact HB.out)) hb); clear HB; have HB := n0_; clear n0_; (try clear hb); (try clear hb2); (try clear hk); (try clear hi)) | (go_at_call 18; (with_reducible refine (chars_Script.calls kj3 (Go.bits .and .i64 a0 255) t207 _ A28.out).mono ?_); rintro e w33 ⟨rfl, hb⟩; have n0_ := Aside0.mk (below_step (by repeat (first | (with_reducible first | exact HB.out | apply below_alloc | apply pw_below_drewN | apply below_drew1) | exact HB.out)) hb); clear HB; have HB := n0_; clear n0_; (try clear hb); (try clear hb2); (try clear hk); (try clear hi)))
                    go_ret
                    exact ⟨by first | rfl | (simp [errW_none, errW_some] <;> rfl) | (simp [*, errW_none, errW_some] <;> rfl), by repeat (first | (with_reducible first | exact HB.out | apply below_alloc | apply pw_below_drewN | apply below_drew1) | exact HB.out)⟩
                  · rw [if_neg c29] at H
                    have c29b0 : (t207 == 2) = false := beq_eq_false_iff_ne.mpr c29
                    have c29b1 : (t207 != 2) = true := bne_iff_ne.mpr c29
                    obtain rfl := Option.some.inj H
                    go_wp2_with (first | ((with_reducible refine gate_callee (f := 20) rfl ?_); refine goesL_ (some 35) rfl rfl Try.func20 (by kernel_rfl) rfl #[.int .i64 (Go.bits .and .i64 a0 255)] rfl (by (try simp only [List.map_toArray, List.map_cons, List.map_nil]); first | done | rfl | (simp only [List.length_drop, List.length_take]; rfl)) ?_; (with_reducible refine (chars_Strong.calls kj3 (Go.bits .and .i64 a0 255) t206 _ A19.out).mono ?_); rintro e w34 ⟨rfl, hb⟩; refine ⟨_, rfl, ?_⟩; have n0_ := Aside0.mk (below_step (by repeat (first | (with_reducible first | exact HB.out | apply below_alloc | apply pw_below_drewN | apply below_drew1) | exact HB.out)) hb); clear HB; have HB := n0_; clear n0_; (try clear hb); (try clear hb2); (try clear hk); (try clear hi)) | ((with_reducible refine gate_callee (f := 18) rfl ?_); refine goesL_ (some 38) rfl rfl Try.func18 (by kernel_rfl) rfl #[.int .i64 (Go.bits .and .i64 a0 255)] rfl (by (try simp only [List.map_toArray, List.map_cons, List.map_nil]); first | done | rfl | (simp only [List.length_drop, List.length_take]; rfl)) ?_; (with_reducible refine (chars_Script.calls kj3 (Go.bits .and .i64 a0 255) t207 _ A20.out).mono ?_); rintro e w35 ⟨rfl, hb⟩; refine ⟨_, rfl, ?_⟩; have n0_ := Aside0.mk (below_step (by repeat (first | (with_reducible first | exact HB.out | apply below_alloc | apply pw_below_drewN | apply below_drew1) | exact HB.out)) hb); clear HB; have HB := n0_; clear n0_; (try clear hb); (try clear hb2); (try clear hk); (try clear hi)) | (go_at_call 19; (with_reducible refine (chars_Class.calls kj3 (Go.bits .and .i64 a0 255) t208 _ A22.out).mono ?_); rintro e w36 ⟨rfl, hb⟩; have n0_ := Aside0.mk (below_step (by repeat (first | (with_reducible first | exact HB.out | apply below_alloc | apply pw_below_drewN | apply below_drew1) | exact HB.out)) hb); clear HB; have HB := n0_; clear n0_; (try clear hb); (try clear hb2); (try clear hk); (try clear hi)) | (go_at_call 18; (with_reducible refine (chars_Script.calls kj3 (Go.bits .and .i64 a0 255) t207 _ A28.out).mono ?_); rintro e w37 ⟨rfl, hb⟩; have n0_ := Aside0.mk (below_step (by repeat (first | (with_reducible first | exact HB.out | apply below_alloc | apply pw_below_drewN | apply below_drew1) | exact HB.out)) hb); clear HB; have HB := n0_; clear n0_; (try clear hb); (try clear hb2); (try clear hk); (try clear hi)))
                    go_ret
                    exact ⟨by first | rfl | (simp [errW_none, errW_some] <;> rfl) | (simp [*, errW_none, errW_some] <;> rfl), by repeat (first | (with_reducible first | exact HB.out | apply below_alloc | apply pw_below_drewN | apply below_drew1) | exact HB.out)⟩
                · rw [if_neg c27] at H
                  have c27b0 : ((t206 != 0) == (t208 == 3)) = false := by simpa using c27
                  (try (have c27b1 : decide ((t206 != 0) = (t208 == 3)) = false := by simpa using c27))
                  (try (have c27b2 : ((t206 != 0) == (t208 == 3)) = false := by simpa using c27))
                  (try (have c27b3 : ¬ ((t206 != 0) = (t208 == 3)) := by simpa using c27))
                  clear c27
                  obtain rfl := Option.some.inj H
                  go_wp2_with (first | ((with_reducible refine gate_callee (f := 20) rfl ?_); refine goesL_ (some 35) rfl rfl Try.func20 (by kernel_rfl) rfl #[.int .i64 (Go.bits .and .i64 a0 255)] rfl (by (try simp only [List.map_toArray, List.map_cons, List.map_nil]); first | done | rfl | (simp only [List.length_drop, List.length_take]; rfl)) ?_; (with_reducible refine (chars_Strong.calls kj3 (Go.bits .and .i64 a0 255) t206 _ A19.out).mono ?_); rintro e w38 ⟨rfl, hb⟩; refine ⟨_, rfl, ?_⟩; have n0_ := Aside0.mk (below_step (by repeat (first | (with_reducible first | exact HB.out | apply below_alloc | apply pw_below_drewN | apply below_drew1) | exact HB.out)) hb); clear HB; have HB := n0_; clear n0_; (try clear hb); (try clear hb2); (try clear hk); (try clear hi)) | ((with_reducible refine gate_callee (f := 18) rfl ?_); refine goesL_ (some 38) rfl rfl Try.func18 (by kernel_rfl) rfl #[.int .i64 (Go.bits .and .i64 a0 255)] rfl (by (try simp only [List.map_toArray, List.map_cons, List.map_nil]); first | done | rfl | (simp only [List.length_drop, List.length_take]; rfl)) ?_; (with_reducible refine (chars_Script.calls kj3 (Go.bits .and .i64 a0 255) t207 _ A20.out).mono ?_); rintro e w39 ⟨rfl, hb⟩; refine ⟨_, rfl, ?_⟩; have n0_ := Aside0.mk (below_step (by repeat (first | (with_reducible first | exact HB.out | apply below_alloc | apply pw_below_drewN | apply below_drew1) | exact HB.out)) hb); clear HB; have HB := n0_; clear n0_; (try clear hb); (try clear hb2); (try clear hk); (try clear hi)) | (go_at_call 19; (with_reducible refine (chars_Class.calls kj3 (Go.bits .and .i64 a0 255) t208 _ A22.out).mono ?_); rintro e w40 ⟨rfl, hb⟩; have n0_ := Aside0.mk (below_step (by repeat (first | (with_reducible first | exact HB.out | apply below_alloc | apply pw_below_drewN | apply below_drew1) | exact HB.out)) hb); clear HB; have HB := n0_; clear n0_; (try clear hb); (try clear hb2); (try clear hk); (try clear hi)))
                  go_ret
                  exact ⟨by first | rfl | (simp [errW_none, errW_some] <;> rfl) | (simp [*, errW_none, errW_some] <;> rfl), by repeat (first | (with_reducible first | exact HB.out | apply below_alloc | apply pw_below_drewN | apply below_drew1) | exact HB.out)⟩
              · replace c26 := Bool.eq_false_iff.mpr c26
                subst c26
                have H1 : (some false) = some r := by rw [if_neg (show ¬ (false = true) by decide)] at H; exact H
                clear H
                have H := H1
                clear H1
                obtain rfl := Option.some.inj H
                go_wp2_with (first | ((with_reducible refine gate_callee (f := 20) rfl ?_); refine goesL_ (some 35) rfl rfl Try.func20 (by kernel_rfl) rfl #[.int .i64 (Go.bits .and .i64 a0 255)] rfl (by (try simp only [List.map_toArray, List.map_cons, List.map_nil]); first | done | rfl | (simp only [List.length_drop, List.length_take]; rfl)) ?_; (with_reducible refine (chars_Strong.calls kj3 (Go.bits .and .i64 a0 255) t206 _ A19.out).mono ?_); rintro e w41 ⟨rfl, hb⟩; refine ⟨_, rfl, ?_⟩; have n0_ := Aside0.mk (below_step (by repeat (first | (with_reducible first | exact HB.out | apply below_alloc | apply pw_below_drewN | apply below_drew1) | exact HB.out)) hb); clear HB; have HB := n0_; clear n0_; (try clear hb); (try clear hb2); (try clear hk); (try clear hi)) | ((with_reducible refine gate_callee (f := 18) rfl ?_); refine goesL_ (some 38) rfl rfl Try.func18 (by kernel_rfl) rfl #[.int .i64 (Go.bits .and .i64 a0 255)] rfl (by (try simp only [List.map_toArray, List.map_cons, List.map_nil]); first | done | rfl | (simp only [List.length_drop, List.length_take]; rfl)) ?_; (with_reducible refine (chars_Script.calls kj3 (Go.bits .and .i64 a0 255) t207 _ A20.out).mono ?_); rintro e w42 ⟨rfl, hb⟩; refine ⟨_, rfl, ?_⟩; have n0_ := Aside0.mk (below_step (by repeat (first | (with_reducible first | exact HB.out | apply below_alloc | apply pw_below_drewN | apply below_drew1) | exact HB.out)) hb); clear HB; have HB := n0_; clear n0_; (try clear hb); (try clear hb2); (try clear hk); (try clear hi)) | (go_at_call 19; (with_reducible refine (chars_Class.calls kj3 (Go.bits .and .i64 a0 255) t208 _ A22.out).mono ?_); rintro e w43 ⟨rfl, hb⟩; have n0_ := Aside0.mk (below_step (by repeat (first | (with_reducible first | exact HB.out | apply below_alloc | apply pw_below_drewN | apply below_drew1) | exact HB.out)) hb); clear HB; have HB := n0_; clear n0_; (try clear hb); (try clear hb2); (try clear hk); (try clear hi)))
                go_ret
                exact ⟨by first | rfl | (simp [errW_none, errW_some] <;> rfl) | (simp [*, errW_none, errW_some] <;> rfl), by repeat (first | (with_reducible first | exact HB.out | apply below_alloc | apply pw_below_drewN | apply below_drew1) | exact HB.out)⟩
            · replace c25 := Bool.eq_false_iff.mpr c25
              subst c25
              have H1 : (if ((t206 != 0) == (t208 == 3)) = true then ((chars_Script.f kj3 (Go.bits .and .i64 a0 255)).bind fun t210 => (if t210 = 2 then (if t201 = true then (some true) else ((chars_Class.f kj3 (Go.bits .and .i64 a0 255)).bind fun t211 => (some (t211 == 6)))) else (some true))) else (some false)) = some r := by rw [if_neg (show ¬ (false = true) by decide)] at H; exact H
              clear H
              have H := H1
              clear H1
              by_cases c44 : ((t206 != 0) == (t208 == 3)) = true
              · rw [if_pos c44] at H
                have c44b0 : ((t206 != 0) == (t208 == 3)) = true := c44
                (try (have c44b1 : decide ((t206 != 0) = (t208 == 3)) = true := by simpa using c44))
                (try (have c44b2 : ((t206 != 0) == (t208 == 3)) = true := by simpa using c44))
                clear c44
                replace H := Option.bind_eq_some_iff.mp H
                obtain ⟨t210, A450, H⟩ := H
                replace H : (if t210 = 2 then (if t201 = true then (some true) else ((chars_Class.f kj3 (Go.bits .and .i64 a0 255)).bind fun t211 => (some (t211 == 6)))) else (some true)) = some r := H
                have A45 := Aside0.mk A450
                clear A450
                have EA45 : t207 = t210 := Option.some.inj (A20.out.symm.trans A45.out)
                obtain rfl := EA45
                by_cases c46 : t207 = 2
                · rw [if_pos c46] at H
                  have c46b0 : (t207 == 2) = true := beq_iff_eq.mpr c46
                  have c46b1 : (t207 != 2) = false := bne_eq_false_iff_eq.mpr c46
                  clear c46
                  by_cases c47 : t201 = true
                  · subst c47
                    have H1 : (some true) = some r := by rw [if_pos rfl] at H; exact H
                    clear H
                    have H := H1
                    clear H1
                    obtain rfl := Option.some.inj H
                    go_wp2_with (first | ((with_reducible refine gate_callee (f := 20) rfl ?_); refine goesL_ (some 35) rfl rfl Try.func20 (by kernel_rfl) rfl #[.int .i64 (Go.bits .and .i64 a0 255)] rfl (by (try simp only [List.map_toArray, List.map_cons, List.map_nil]); first | done | rfl | (simp only [List.length_drop, List.length_take]; rfl)) ?_; (with_reducible refine (chars_Strong.calls kj3 (Go.bits .and .i64 a0 255) t206 _ A19.out).mono ?_); rintro e w48 ⟨rfl, hb⟩; refine ⟨_, rfl, ?_⟩; have n0_ := Aside0.mk (below_step (by repeat (first | (with_reducible first | exact HB.out | apply below_alloc | apply pw_below_drewN | apply below_drew1) | exact HB.out)) hb); clear HB; have HB := n0_; clear n0_; (try clear hb); (try clear hb2); (try clear hk); (try clear hi)) | ((with_reducible refine gate_callee (f := 18) rfl ?_); refine goesL_ (some 38) rfl rfl Try.func18 (by kernel_rfl) rfl #[.int .i64 (Go.bits .and .i64 a0 255)] rfl (by (try simp only [List.map_toArray, List.map_cons, List.map_nil]); first | done | rfl | (simp only [List.length_drop, List.length_take]; rfl)) ?_; (with_reducible refine (chars_Script.calls kj3 (Go.bits .and .i64 a0 255) t207 _ A20.out).mono ?_); rintro e w49 ⟨rfl, hb⟩; refine ⟨_, rfl, ?_⟩; have n0_ := Aside0.mk (below_step (by repeat (first | (with_reducible first | exact HB.out | apply below_alloc | apply pw_below_drewN | apply below_drew1) | exact HB.out)) hb); clear HB; have HB := n0_; clear n0_; (try clear hb); (try clear hb2); (try clear hk); (try clear hi)) | (go_at_call 19; (with_reducible refine (chars_Class.calls kj3 (Go.bits .and .i64 a0 255) t208 _ A22.out).mono ?_); rintro e w50 ⟨rfl, hb⟩; have n0_ := Aside0.mk (below_step (by repeat (first | (with_reducible first | exact HB.out | apply below_alloc | apply pw_below_drewN | apply below_drew1) | exact HB.out)) hb); clear HB; have HB := n0_; clear n0_; (try clear hb); (try clear hb2); (try clear hk); (try clear hi)) | (go_at_call 18; (with_reducible refine (chars_Script.calls kj3 (Go.bits .and .i64 a0 255) t207 _ A45.out).mono ?_); rintro e w51 ⟨rfl, hb⟩; have n0_ := Aside0.mk (below_step (by repeat (first | (with_reducible first | exact HB.out | apply below_alloc | apply pw_below_drewN | apply below_drew1) | exact HB.out)) hb); clear HB; have HB := n0_; clear n0_; (try clear hb); (try clear hb2); (try clear hk); (try clear hi)))
                    go_ret
                    exact ⟨by first | rfl | (simp [errW_none, errW_some] <;> rfl) | (simp [*, errW_none, errW_some] <;> rfl), by repeat (first | (with_reducible first | exact HB.out | apply below_alloc | apply pw_below_drewN | apply below_drew1) | exact HB.out)⟩
                  · replace c47 := Bool.eq_false_iff.mpr c47
                    subst c47
                    have H1 : ((chars_Class.f kj3 (Go.bits .and .i64 a0 255)).bind fun t211 => (some (t211 == 6))) = some r := by rw [if_neg (show ¬ (false = true) by decide)] at H; exact H
                    clear H
                    have H := H1
                    clear H1
                    replace H := Option.bind_eq_some_iff.mp H
                    obtain ⟨t211, A520, H⟩ := H
                    replace H : (some (t211 == 6)) = some r := H
                    have A52 := Aside0.mk A520
                    clear A520
                    have EA52 : t208 = t211 := Option.some.inj (A22.out.symm.trans A52.out)
                    obtain rfl := EA52
                    obtain rfl := Option.some.inj H
                    go_wp2_with (first | ((with_reducible refine gate_callee (f := 20) rfl ?_); refine goesL_ (some 35) rfl rfl Try.func20 (by kernel_rfl) rfl #[.int .i64 (Go.bits .and .i64 a0 255)] rfl (by (try simp only [List.map_toArray, List.map_cons, List.map_nil]); first | done | rfl | (simp only [List.length_drop, List.length_take]; rfl)) ?_; (with_reducible refine (chars_Strong.calls kj3 (Go.bits .and .i64 a0 255) t206 _ A19.out).mono ?_); rintro e w53 ⟨rfl, hb⟩; refine ⟨_, rfl, ?_⟩; have n0_ := Aside0.mk (below_step (by repeat (first | (with_reducible first | exact HB.out | apply below_alloc | apply pw_below_drewN | apply below_drew1) | exact HB.out)) hb); clear HB; have HB := n0_; clear n0_; (try clear hb); (try clear hb2); (try clear hk); (try clear hi)) | ((with_reducible refine gate_callee (f := 18) rfl ?_); refine goesL_ (some 38) rfl rfl Try.func18 (by kernel_rfl) rfl #[.int .i64 (Go.bits .and .i64 a0 255)] rfl (by (try simp only [List.map_toArray, List.map_cons, List.map_nil]); first | done | rfl | (simp only [List.length_drop, List.length_take]; rfl)) ?_; (with_reducible refine (chars_Script.calls kj3 (Go.bits .and .i64 a0 255) t207 _ A20.out).mono ?_); rintro e w54 ⟨rfl, hb⟩; refine ⟨_, rfl, ?_⟩; have n0_ := Aside0.mk (below_step (by repeat (first | (with_reducible first | exact HB.out | apply below_alloc | apply pw_below_drewN | apply below_drew1) | exact HB.out)) hb); clear HB; have HB := n0_; clear n0_; (try clear hb); (try clear hb2); (try clear hk); (try clear hi)) | (go_at_call 19; (with_reducible refine (chars_Class.calls kj3 (Go.bits .and .i64 a0 255) t208 _ A22.out).mono ?_); rintro e w55 ⟨rfl, hb⟩; have n0_ := Aside0.mk (below_step (by repeat (first | (with_reducible first | exact HB.out | apply below_alloc | apply pw_below_drewN | apply below_drew1) | exact HB.out)) hb); clear HB; have HB := n0_; clear n0_; (try clear hb); (try clear hb2); (try clear hk); (try clear hi)) | (go_at_call 18; (with_reducible refine (chars_Script.calls kj3 (Go.bits .and .i64 a0 255) t207 _ A45.out).mono ?_); rintro e w56 ⟨rfl, hb⟩; have n0_ := Aside0.mk (below_step (by repeat (first | (with_reducible first | exact HB.out | apply below_alloc | apply pw_below_drewN | apply below_drew1) | exact HB.out)) hb); clear HB; have HB := n0_; clear n0_; (try clear hb); (try clear hb2); (try clear hk); (try clear hi)) | (go_at_call 19; (with_reducible refine (chars_Class.calls kj3 (Go.bits .and .i64 a0 255) t208 _ A52.out).mono ?_); rintro e w57 ⟨rfl, hb⟩; have n0_ := Aside0.mk (below_step (by repeat (first | (with_reducible first | exact HB.out | apply below_alloc | apply pw_below_drewN | apply below_drew1) | exact HB.out)) hb); clear HB; have HB := n0_; clear n0_; (try clear hb); (try clear hb2); (try clear hk); (try clear hi)))
                    go_ret
                    exact ⟨by first | rfl | (simp [errW_none, errW_some] <;> rfl) | (simp [*, errW_none, errW_some] <;> rfl), by repeat (first | (with_reducible first | exact HB.out | apply below_alloc | apply pw_below_drewN | apply below_drew1) | exact HB.out)⟩
                · rw [if_neg c46] at H
                  have c46b0 : (t207 == 2) = false := beq_eq_false_iff_ne.mpr c46
                  have c46b1 : (t207 != 2) = true := bne_iff_ne.mpr c46
                  obtain rfl := Option.some.inj H
                  go_wp2_with (first | ((with_reducible refine gate_callee (f := 20) rfl ?_); refine goesL_ (some 35) rfl rfl Try.func20 (by kernel_rfl) rfl #[.int .i64 (Go.bits .and .i64 a0 255)] rfl (by (try simp only [List.map_toArray, List.map_cons, List.map_nil]); first | done | rfl | (simp only [List.length_drop, List.length_take]; rfl)) ?_; (with_reducible refine (chars_Strong.calls kj3 (Go.bits .and .i64 a0 255) t206 _ A19.out).mono ?_); rintro e w58 ⟨rfl, hb⟩; refine ⟨_, rfl, ?_⟩; have n0_ := Aside0.mk (below_step (by repeat (first | (with_reducible first | exact HB.out | apply below_alloc | apply pw_below_drewN | apply below_drew1) | exact HB.out)) hb); clear HB; have HB := n0_; clear n0_; (try clear hb); (try clear hb2); (try clear hk); (try clear hi)) | ((with_reducible refine gate_callee (f := 18) rfl ?_); refine goesL_ (some 38) rfl rfl Try.func18 (by kernel_rfl) rfl #[.int .i64 (Go.bits .and .i64 a0 255)] rfl (by (try simp only [List.map_toArray, List.map_cons, List.map_nil]); first | done | rfl | (simp only [List.length_drop, List.length_take]; rfl)) ?_; (with_reducible refine (chars_Script.calls kj3 (Go.bits .and .i64 a0 255) t207 _ A20.out).mono ?_); rintro e w59 ⟨rfl, hb⟩; refine ⟨_, rfl, ?_⟩; have n0_ := Aside0.mk (below_step (by repeat (first | (with_reducible first | exact HB.out | apply below_alloc | apply pw_below_drewN | apply below_drew1) | exact HB.out)) hb); clear HB; have HB := n0_; clear n0_; (try clear hb); (try clear hb2); (try clear hk); (try clear hi)) | (go_at_call 19; (with_reducible refine (chars_Class.calls kj3 (Go.bits .and .i64 a0 255) t208 _ A22.out).mono ?_); rintro e w60 ⟨rfl, hb⟩; have n0_ := Aside0.mk (below_step (by repeat (first | (with_reducible first | exact HB.out | apply below_alloc | apply pw_below_drewN | apply below_drew1) | exact HB.out)) hb); clear HB; have HB := n0_; clear n0_; (try clear hb); (try clear hb2); (try clear hk); (try clear hi)) | (go_at_call 18; (with_reducible refine (chars_Script.calls kj3 (Go.bits .and .i64 a0 255) t207 _ A45.out).mono ?_); rintro e w61 ⟨rfl, hb⟩; have n0_ := Aside0.mk (below_step (by repeat (first | (with_reducible first | exact HB.out | apply below_alloc | apply pw_below_drewN | apply below_drew1) | exact HB.out)) hb); clear HB; have HB := n0_; clear n0_; (try clear hb); (try clear hb2); (try clear hk); (try clear hi)))
                  go_ret
                  exact ⟨by first | rfl | (simp [errW_none, errW_some] <;> rfl) | (simp [*, errW_none, errW_some] <;> rfl), by repeat (first | (with_reducible first | exact HB.out | apply below_alloc | apply pw_below_drewN | apply below_drew1) | exact HB.out)⟩
              · rw [if_neg c44] at H
                have c44b0 : ((t206 != 0) == (t208 == 3)) = false := by simpa using c44
                (try (have c44b1 : decide ((t206 != 0) = (t208 == 3)) = false := by simpa using c44))
                (try (have c44b2 : ((t206 != 0) == (t208 == 3)) = false := by simpa using c44))
                (try (have c44b3 : ¬ ((t206 != 0) = (t208 == 3)) := by simpa using c44))
                clear c44
                obtain rfl := Option.some.inj H
                go_wp2_with (first | ((with_reducible refine gate_callee (f := 20) rfl ?_); refine goesL_ (some 35) rfl rfl Try.func20 (by kernel_rfl) rfl #[.int .i64 (Go.bits .and .i64 a0 255)] rfl (by (try simp only [List.map_toArray, List.map_cons, List.map_nil]); first | done | rfl | (simp only [List.length_drop, List.length_take]; rfl)) ?_; (with_reducible refine (chars_Strong.calls kj3 (Go.bits .and .i64 a0 255) t206 _ A19.out).mono ?_); rintro e w62 ⟨rfl, hb⟩; refine ⟨_, rfl, ?_⟩; have n0_ := Aside0.mk (below_step (by repeat (first | (with_reducible first | exact HB.out | apply below_alloc | apply pw_below_drewN | apply below_drew1) | exact HB.out)) hb); clear HB; have HB := n0_; clear n0_; (try clear hb); (try clear hb2); (try clear hk); (try clear hi)) | ((with_reducible refine gate_callee (f := 18) rfl ?_); refine goesL_ (some 38) rfl rfl Try.func18 (by kernel_rfl) rfl #[.int .i64 (Go.bits .and .i64 a0 255)] rfl (by (try simp only [List.map_toArray, List.map_cons, List.map_nil]); first | done | rfl | (simp only [List.length_drop, List.length_take]; rfl)) ?_; (with_reducible refine (chars_Script.calls kj3 (Go.bits .and .i64 a0 255) t207 _ A20.out).mono ?_); rintro e w63 ⟨rfl, hb⟩; refine ⟨_, rfl, ?_⟩; have n0_ := Aside0.mk (below_step (by repeat (first | (with_reducible first | exact HB.out | apply below_alloc | apply pw_below_drewN | apply below_drew1) | exact HB.out)) hb); clear HB; have HB := n0_; clear n0_; (try clear hb); (try clear hb2); (try clear hk); (try clear hi)) | (go_at_call 19; (with_reducible refine (chars_Class.calls kj3 (Go.bits .and .i64 a0 255) t208 _ A22.out).mono ?_); rintro e w64 ⟨rfl, hb⟩; have n0_ := Aside0.mk (below_step (by repeat (first | (with_reducible first | exact HB.out | apply below_alloc | apply pw_below_drewN | apply below_drew1) | exact HB.out)) hb); clear HB; have HB := n0_; clear n0_; (try clear hb); (try clear hb2); (try clear hk); (try clear hi)))
                go_ret
                exact ⟨by first | rfl | (simp [errW_none, errW_some] <;> rfl) | (simp [*, errW_none, errW_some] <;> rfl), by repeat (first | (with_reducible first | exact HB.out | apply below_alloc | apply pw_below_drewN | apply below_drew1) | exact HB.out)⟩
          · replace c24 := Bool.eq_false_iff.mpr c24
            subst c24
            have H1 : (some false) = some r := by rw [if_neg (show ¬ (false = true) by decide)] at H; exact H
            clear H
            have H := H1
            clear H1
            obtain rfl := Option.some.inj H
            go_wp2_with (first | ((with_reducible refine gate_callee (f := 20) rfl ?_); refine goesL_ (some 35) rfl rfl Try.func20 (by kernel_rfl) rfl #[.int .i64 (Go.bits .and .i64 a0 255)] rfl (by (try simp only [List.map_toArray, List.map_cons, List.map_nil]); first | done | rfl | (simp only [List.length_drop, List.length_take]; rfl)) ?_; (with_reducible refine (chars_Strong.calls kj3 (Go.bits .and .i64 a0 255) t206 _ A19.out).mono ?_); rintro e w65 ⟨rfl, hb⟩; refine ⟨_, rfl, ?_⟩; have n0_ := Aside0.mk (below_step (by repeat (first | (with_reducible first | exact HB.out | apply below_alloc | apply pw_below_drewN | apply below_drew1) | exact HB.out)) hb); clear HB; have HB := n0_; clear n0_; (try clear hb); (try clear hb2); (try clear hk); (try clear hi)) | ((with_reducible refine gate_callee (f := 18) rfl ?_); refine goesL_ (some 38) rfl rfl Try.func18 (by kernel_rfl) rfl #[.int .i64 (Go.bits .and .i64 a0 255)] rfl (by (try simp only [List.map_toArray, List.map_cons, List.map_nil]); first | done | rfl | (simp only [List.length_drop, List.length_take]; rfl)) ?_; (with_reducible refine (chars_Script.calls kj3 (Go.bits .and .i64 a0 255) t207 _ A20.out).mono ?_); rintro e w66 ⟨rfl, hb⟩; refine ⟨_, rfl, ?_⟩; have n0_ := Aside0.mk (below_step (by repeat (first | (with_reducible first | exact HB.out | apply below_alloc | apply pw_below_drewN | apply below_drew1) | exact HB.out)) hb); clear HB; have HB := n0_; clear n0_; (try clear hb); (try clear hb2); (try clear hk); (try clear hi)) | (go_at_call 19; (with_reducible refine (chars_Class.calls kj3 (Go.bits .and .i64 a0 255) t208 _ A22.out).mono ?_); rintro e w67 ⟨rfl, hb⟩; have n0_ := Aside0.mk (below_step (by repeat (first | (with_reducible first | exact HB.out | apply below_alloc | apply pw_below_drewN | apply below_drew1) | exact HB.out)) hb); clear HB; have HB := n0_; clear n0_; (try clear hb); (try clear hb2); (try clear hk); (try clear hi)))
            go_ret
            exact ⟨by first | rfl | (simp [errW_none, errW_some] <;> rfl) | (simp [*, errW_none, errW_some] <;> rfl), by repeat (first | (with_reducible first | exact HB.out | apply below_alloc | apply pw_below_drewN | apply below_drew1) | exact HB.out)⟩
        · replace c23 := Bool.eq_false_iff.mpr c23
          subst c23
          have H1 : (some false) = some r := by rw [if_neg (show ¬ (false = true) by decide)] at H; exact H
          clear H
          have H := H1
          clear H1
          obtain rfl := Option.some.inj H
          go_wp2_with (first | ((with_reducible refine gate_callee (f := 20) rfl ?_); refine goesL_ (some 35) rfl rfl Try.func20 (by kernel_rfl) rfl #[.int .i64 (Go.bits .and .i64 a0 255)] rfl (by (try simp only [List.map_toArray, List.map_cons, List.map_nil]); first | done | rfl | (simp only [List.length_drop, List.length_take]; rfl)) ?_; (with_reducible refine (chars_Strong.calls kj3 (Go.bits .and .i64 a0 255) t206 _ A19.out).mono ?_); rintro e w68 ⟨rfl, hb⟩; refine ⟨_, rfl, ?_⟩; have n0_ := Aside0.mk (below_step (by repeat (first | (with_reducible first | exact HB.out | apply below_alloc | apply pw_below_drewN | apply below_drew1) | exact HB.out)) hb); clear HB; have HB := n0_; clear n0_; (try clear hb); (try clear hb2); (try clear hk); (try clear hi)) | ((with_reducible refine gate_callee (f := 18) rfl ?_); refine goesL_ (some 38) rfl rfl Try.func18 (by kernel_rfl) rfl #[.int .i64 (Go.bits .and .i64 a0 255)] rfl (by (try simp only [List.map_toArray, List.map_cons, List.map_nil]); first | done | rfl | (simp only [List.length_drop, List.length_take]; rfl)) ?_; (with_reducible refine (chars_Script.calls kj3 (Go.bits .and .i64 a0 255) t207 _ A20.out).mono ?_); rintro e w69 ⟨rfl, hb⟩; refine ⟨_, rfl, ?_⟩; have n0_ := Aside0.mk (below_step (by repeat (first | (with_reducible first | exact HB.out | apply below_alloc | apply pw_below_drewN | apply below_drew1) | exact HB.out)) hb); clear HB; have HB := n0_; clear n0_; (try clear hb); (try clear hb2); (try clear hk); (try clear hi)) | (go_at_call 19; (with_reducible refine (chars_Class.calls kj3 (Go.bits .and .i64 a0 255) t208 _ A22.out).mono ?_); rintro e w70 ⟨rfl, hb⟩; have n0_ := Aside0.mk (below_step (by repeat (first | (with_reducible first | exact HB.out | apply below_alloc | apply pw_below_drewN | apply below_drew1) | exact HB.out)) hb); clear HB; have HB := n0_; clear n0_; (try clear hb); (try clear hb2); (try clear hk); (try clear hi)))
          go_ret
          exact ⟨by first | rfl | (simp [errW_none, errW_some] <;> rfl) | (simp [*, errW_none, errW_some] <;> rfl), by repeat (first | (with_reducible first | exact HB.out | apply below_alloc | apply pw_below_drewN | apply below_drew1) | exact HB.out)⟩
      · rw [if_neg c21] at H
        have c21b0 : (t207 == 0) = false := beq_eq_false_iff_ne.mpr c21
        have c21b1 : (t207 != 0) = true := bne_iff_ne.mpr c21
        by_cases c71 : t200 = true
        · subst c71
          have H1 : (if x7_3 = true then (if t202 = true then (if t201 = true then (if ((t206 != 0) == true) = true then ((chars_Script.f kj3 (Go.bits .and .i64 a0 255)).bind fun t212 => (if t212 = 2 then (some true) else (some true))) else (some false)) else (some false)) else (if ((t206 != 0) == true) = true then ((chars_Script.f kj3 (Go.bits .and .i64 a0 255)).bind fun t213 => (if t213 = 2 then (if t201 = true then (some true) else ((chars_Class.f kj3 (Go.bits .and .i64 a0 255)).bind fun t214 => (some (t214 == 6)))) else (some true))) else (some false))) else (some false)) = some r := by rw [if_pos rfl] at H; exact H
          clear H
          have H := H1
          clear H1
          by_cases c72 : x7_3 = true
          · subst c72
            have H1 : (if t202 = true then (if t201 = true then (if ((t206 != 0) == true) = true then ((chars_Script.f kj3 (Go.bits .and .i64 a0 255)).bind fun t212 => (if t212 = 2 then (some true) else (some true))) else (some false)) else (some false)) else (if ((t206 != 0) == true) = true then ((chars_Script.f kj3 (Go.bits .and .i64 a0 255)).bind fun t213 => (if t213 = 2 then (if t201 = true then (some true) else ((chars_Class.f kj3 (Go.bits .and .i64 a0 255)).bind fun t214 => (some (t214 == 6)))) else (some true))) else (some false))) = some r := by rw [if_pos rfl] at H; exact H
            clear H
            have H := H1
            clear H1
            by_cases c73 : t202 = true
            · subst c73
              have H1 : (if t201 = true then (if ((t206 != 0) == true) = true then ((chars_Script.f kj3 (Go.bits .and .i64 a0 255)).bind fun t212 => (if t212 = 2 then (some true) else (some true))) else (some false)) else (some false)) = some r := by rw [if_pos rfl] at H; exact H
              clear H
              have H := H1
              clear H1
              by_cases c74 : t201 = true
              · subst c74
                have H1 : (if ((t206 != 0) == true) = true then ((chars_Script.f kj3 (Go.bits .and .i64 a0 255)).bind fun t212 => (if t212 = 2 then (some true) else (some true))) else (some false)) = some r := by rw [if_pos rfl] at H; exact H
                clear H
                have H := H1
                clear H1
                by_cases c75 : ((t206 != 0) == true) = true
                · rw [if_pos c75] at H
                  have c75b0 : ((t206 != 0) == true) = true := c75
                  (try (have c75b1 : decide ((t206 != 0) = true) = true := by simpa using c75))
                  (try (have c75b2 : ((t206 != 0) == true) = true := by simpa using c75))
                  clear c75
                  replace H := Option.bind_eq_some_iff.mp H
                  obtain ⟨t212, A760, H⟩ := H
                  replace H : (if t212 = 2 then (some true) else (some true)) = some r := H
                  have A76 := Aside0.mk A760
                  clear A760
                  have EA76 : t207 = t212 := Option.some.inj (A20.out.symm.trans A76.out)
                  obtain rfl := EA76
                  by_cases c77 : t207 = 2
                  · rw [if_pos c77] at H
                    have c77b0 : (t207 == 2) = true := beq_iff_eq.mpr c77
                    have c77b1 : (t207 != 2) = false := bne_eq_false_iff_eq.mpr c77
                    clear c77
                    obtain rfl := Option.some.inj H
                    go_wp2_with (first | ((with_reducible refine gate_callee (f := 20) rfl ?_); refine goesL_ (some 35) rfl rfl Try.func20 (by kernel_rfl) rfl #[.int .i64 (Go.bits .and .i64 a0 255)] rfl (by (try simp only [List.map_toArray, List.map_cons, List.map_nil]); first | done | rfl | (simp only [List.length_drop, List.length_take]; rfl)) ?_; (with_reducible refine (chars_Strong.calls kj3 (Go.bits .and .i64 a0 255) t206 _ A19.out).mono ?_); rintro e w78 ⟨rfl, hb⟩; refine ⟨_, rfl, ?_⟩; have n0_ := Aside0.mk (below_step (by repeat (first | (with_reducible first | exact HB.out | apply below_alloc | apply pw_below_drewN | apply below_drew1) | exact HB.out)) hb); clear HB; have HB := n0_; clear n0_; (try clear hb); (try clear hb2); (try clear hk); (try clear hi)) | ((with_reducible refine gate_callee (f := 18) rfl ?_); refine goesL_ (some 38) rfl rfl Try.func18 (by kernel_rfl) rfl #[.int .i64 (Go.bits .and .i64 a0 255)] rfl (by (try simp only [List.map_toArray, List.map_cons, List.map_nil]); first | done | rfl | (simp only [List.length_drop, List.length_take]; rfl)) ?_; (with_reducible refine (chars_Script.calls kj3 (Go.bits .and .i64 a0 255) t207 _ A20.out).mono ?_); rintro e w79 ⟨rfl, hb⟩; refine ⟨_, rfl, ?_⟩; have n0_ := Aside0.mk (below_step (by repeat (first | (with_reducible first | exact HB.out | apply below_alloc | apply pw_below_drewN | apply below_drew1) | exact HB.out)) hb); clear HB; have HB := n0_; clear n0_; (try clear hb); (try clear hb2); (try clear hk); (try clear hi)) | (go_at_call 18; (with_reducible refine (chars_Script.calls kj3 (Go.bits .and .i64 a0 255) t207 _ A76.out).mono ?_); rintro e w80 ⟨rfl, hb⟩; have n0_ := Aside0.mk (below_step (by repeat (first | (with_reducible first | exact HB.out | apply below_alloc | apply pw_below_drewN | apply below_drew1) | exact HB.out)) hb); clear HB; have HB := n0_; clear n0_; (try clear hb); (try clear hb2); (try clear hk); (try clear hi)))
                    go_ret
                    exact ⟨by first | rfl | (simp [errW_none, errW_some] <;> rfl) | (simp [*, errW_none, errW_some] <;> rfl), by repeat (first | (with_reducible first | exact HB.out | apply below_alloc | apply pw_below_drewN | apply below_drew1) | exact HB.out)⟩
                  · rw [if_neg c77] at H
                    have c77b0 : (t207 == 2) = false := beq_eq_false_iff_ne.mpr c77
                    have c77b1 : (t207 != 2) = true := bne_iff_ne.mpr c77
                    obtain rfl := Option.some.inj H
                    go_wp2_with (first | ((with_reducible refine gate_callee (f := 20) rfl ?_); refine goesL_ (some 35) rfl rfl Try.func20 (by kernel_rfl) rfl #[.int .i64 (Go.bits .and .i64 a0 255)] rfl (by (try simp only [List.map_toArray, List.map_cons, List.map_nil]); first | done | rfl | (simp only [List.length_drop, List.length_take]; rfl)) ?_; (with_reducible refine (chars_Strong.calls kj3 (Go.bits .and .i64 a0 255) t206 _ A19.out).mono ?_); rintro e w81 ⟨rfl, hb⟩; refine ⟨_, rfl, ?_⟩; have n0_ := Aside0.mk (below_step (by repeat (first | (with_reducible first | exact HB.out | apply below_alloc | apply pw_below_drewN | apply below_drew1) | exact HB.out)) hb); clear HB; have HB := n0_; clear n0_; (try clear hb); (try clear hb2); (try clear hk); (try clear hi)) | ((with_reducible refine gate_callee (f := 18) rfl ?_); refine goesL_ (some 38) rfl rfl Try.func18 (by kernel_rfl) rfl #[.int .i64 (Go.bits .and .i64 a0 255)] rfl (by (try simp only [List.map_toArray, List.map_cons, List.map_nil]); first | done | rfl | (simp only [List.length_drop, List.length_take]; rfl)) ?_; (with_reducible refine (chars_Script.calls kj3 (Go.bits .and .i64 a0 255) t207 _ A20.out).mono ?_); rintro e w82 ⟨rfl, hb⟩; refine ⟨_, rfl, ?_⟩; have n0_ := Aside0.mk (below_step (by repeat (first | (with_reducible first | exact HB.out | apply below_alloc | apply pw_below_drewN | apply below_drew1) | exact HB.out)) hb); clear HB; have HB := n0_; clear n0_; (try clear hb); (try clear hb2); (try clear hk); (try clear hi)) | (go_at_call 18; (with_reducible refine (chars_Script.calls kj3 (Go.bits .and .i64 a0 255) t207 _ A76.out).mono ?_); rintro e w83 ⟨rfl, hb⟩; have n0_ := Aside0.mk (below_step (by repeat (first | (with_reducible first | exact HB.out | apply below_alloc | apply pw_below_drewN | apply below_drew1) | exact HB.out)) hb); clear HB; have HB := n0_; clear n0_; (try clear hb); (try clear hb2); (try clear hk); (try clear hi)))
                    go_ret
                    exact ⟨by first | rfl | (simp [errW_none, errW_some] <;> rfl) | (simp [*, errW_none, errW_some] <;> rfl), by repeat (first | (with_reducible first | exact HB.out | apply below_alloc | apply pw_below_drewN | apply below_drew1) | exact HB.out)⟩
                · rw [if_neg c75] at H
                  have c75b0 : ((t206 != 0) == true) = false := by simpa using c75
                  (try (have c75b1 : decide ((t206 != 0) = true) = false := by simpa using c75))
                  (try (have c75b2 : ((t206 != 0) == true) = false := by simpa using c75))
                  (try (have c75b3 : ¬ ((t206 != 0) = true) := by simpa using c75))
                  clear c75
                  obtain rfl := Option.some.inj H
                  go_wp2_with (first | ((with_reducible refine gate_callee (f := 20) rfl ?_); refine goesL_ (some 35) rfl rfl Try.func20 (by kernel_rfl) rfl #[.int .i64 (Go.bits .and .i64 a0 255)] rfl (by (try simp only [List.map_toArray, List.map_cons, List.map_nil]); first | done | rfl | (simp only [List.length_drop, List.length_take]; rfl)) ?_; (with_reducible refine (chars_Strong.calls kj3 (Go.bits .and .i64 a0 255) t206 _ A19.out).mono ?_); rintro e w84 ⟨rfl, hb⟩; refine ⟨_, rfl, ?_⟩; have n0_ := Aside0.mk (below_step (by repeat (first | (with_reducible first | exact HB.out | apply below_alloc | apply pw_below_drewN | apply below_drew1) | exact HB.out)) hb); clear HB; have HB := n0_; clear n0_; (try clear hb); (try clear hb2); (try clear hk); (try clear hi)) | ((with_reducible refine gate_callee (f := 18) rfl ?_); refine goesL_ (some 38) rfl rfl Try.func18 (by kernel_rfl) rfl #[.int .i64 (Go.bits .and .i64 a0 255)] rfl (by (try simp only [List.map_toArray, List.map_cons, List.map_nil]); first | done | rfl | (simp only [List.length_drop, List.length_take]; rfl)) ?_; (with_reducible refine (chars_Script.calls kj3 (Go.bits .and .i64 a0 255) t207 _ A20.out).mono ?_); rintro e w85 ⟨rfl, hb⟩; refine ⟨_, rfl, ?_⟩; have n0_ := Aside0.mk (below_step (by repeat (first | (with_reducible first | exact HB.out | apply below_alloc | apply pw_below_drewN | apply below_drew1) | exact HB.out)) hb); clear HB; have HB := n0_; clear n0_; (try clear hb); (try clear hb2); (try clear hk); (try clear hi)))
                  go_ret
                  exact ⟨by first | rfl | (simp [errW_none, errW_some] <;> rfl) | (simp [*, errW_none, errW_some] <;> rfl), by repeat (first | (with_reducible first | exact HB.out | apply below_alloc | apply pw_below_drewN | apply below_drew1) | exact HB.out)⟩
              · replace c74 := Bool.eq_false_iff.mpr c74
                subst c74
                have H1 : (some false) = some r := by rw [if_neg (show ¬ (false = true) by decide)] at H; exact H
                clear H
                have H := H1
                clear H1
                obtain rfl := Option.some.inj H
                go_wp2_with (first | ((with_reducible refine gate_callee (f := 20) rfl ?_); refine goesL_ (some 35) rfl rfl Try.func20 (by kernel_rfl) rfl #[.int .i64 (Go.bits .and .i64 a0 255)] rfl (by (try simp only [List.map_toArray, List.map_cons, List.map_nil]); first | done | rfl | (simp only [List.length_drop, List.length_take]; rfl)) ?_; (with_reducible refine (chars_Strong.calls kj3 (Go.bits .and .i64 a0 255) t206 _ A19.out).mono ?_); rintro e w86 ⟨rfl, hb⟩; refine ⟨_, rfl, ?_⟩; have n0_ := Aside0.mk (below_step (by repeat (first | (with_reducible first | exact HB.out | apply below_alloc | apply pw_below_drewN | apply below_drew1) | exact HB.out)) hb); clear HB; have HB := n0_; clear n0_; (try clear hb); (try clear hb2); (try clear hk); (try clear hi)) | ((with_reducible refine gate_callee (f := 18) rfl ?_); refine goesL_ (some 38) rfl rfl Try.func18 (by kernel_rfl) rfl #[.int .i64 (Go.bits .and .i64 a0 255)] rfl (by (try simp only [List.map_toArray, List.map_cons, List.map_nil]); first | done | rfl | (simp only [List.length_drop, List.length_take]; rfl)) ?_; (with_reducible refine (chars_Script.calls kj3 (Go.bits .and .i64 a0 255) t207 _ A20.out).mono ?_); rintro e w87 ⟨rfl, hb⟩; refine ⟨_, rfl, ?_⟩; have n0_ := Aside0.mk (below_step (by repeat (first | (with_reducible first | exact HB.out | apply below_alloc | apply pw_below_drewN | apply below_drew1) | exact HB.out)) hb); clear HB; have HB := n0_; clear n0_; (try clear hb); (try clear hb2); (try clear hk); (try clear hi)))
                go_ret
                exact ⟨by first | rfl | (simp [errW_none, errW_some] <;> rfl) | (simp [*, errW_none, errW_some] <;> rfl), by repeat (first | (with_reducible first | exact HB.out | apply below_alloc | apply pw_below_drewN | apply below_drew1) | exact HB.out)⟩
            · replace c73 := Bool.eq_false_iff.mpr c73
              subst c73
              have H1 : (if ((t206 != 0) == true) = true then ((chars_Script.f kj3 (Go.bits .and .i64 a0 255)).bind fun t213 => (if t213 = 2 then (if t201 = true then (some true) else ((chars_Class.f kj3 (Go.bits .and .i64 a0 255)).bind fun t214 => (some (t214 == 6)))) else (some true))) else (some false)) = some r := by rw [if_neg (show ¬ (false = true) by decide)] at H; exact H
              clear H
              have H := H1
              clear H1
              by_cases c88 : ((t206 != 0) == true) = true
              · rw [if_pos c88] at H
                have c88b0 : ((t206 != 0) == true) = true := c88
                (try (have c88b1 : decide ((t206 != 0) = true) = true := by simpa using c88))
                (try (have c88b2 : ((t206 != 0) == true) = true := by simpa using c88))
                clear c88
                replace H := Option.bind_eq_some_iff.mp H
                obtain ⟨t213, A890, H⟩ := H
                replace H : (if t213 = 2 then (if t201 = true then (some true) else ((chars_Class.f kj3 (Go.bits .and .i64 a0 255)).bind fun t214 => (some (t214 == 6)))) else (some true)) = some r := H
                have A89 := Aside0.mk A890
                clear A890
                have EA89 : t207 = t213 := Option.some.inj (A20.out.symm.trans A89.out)
                obtain rfl := EA89
                by_cases c90 : t207 = 2
                · rw [if_pos c90] at H
                  have c90b0 : (t207 == 2) = true := beq_iff_eq.mpr c90
                  have c90b1 : (t207 != 2) = false := bne_eq_false_iff_eq.mpr c90
                  clear c90
                  by_cases c91 : t201 = true
                  · subst c91
                    have H1 : (some true) = some r := by rw [if_pos rfl] at H; exact H
                    clear H
                    have H := H1
                    clear H1
                    obtain rfl := Option.some.inj H
                    go_wp2_with (first | ((with_reducible refine gate_callee (f := 20) rfl ?_); refine goesL_ (some 35) rfl rfl Try.func20 (by kernel_rfl) rfl #[.int .i64 (Go.bits .and .i64 a0 255)] rfl (by (try simp only [List.map_toArray, List.map_cons, List.map_nil]); first | done | rfl | (simp only [List.length_drop, List.length_take]; rfl)) ?_; (with_reducible refine (chars_Strong.calls kj3 (Go.bits .and .i64 a0 255) t206 _ A19.out).mono ?_); rintro e w92 ⟨rfl, hb⟩; refine ⟨_, rfl, ?_⟩; have n0_ := Aside0.mk (below_step (by repeat (first | (with_reducible first | exact HB.out | apply below_alloc | apply pw_below_drewN | apply below_drew1) | exact HB.out)) hb); clear HB; have HB := n0_; clear n0_; (try clear hb); (try clear hb2); (try clear hk); (try clear hi)) | ((with_reducible refine gate_callee (f := 18) rfl ?_); refine goesL_ (some 38) rfl rfl Try.func18 (by kernel_rfl) rfl #[.int .i64 (Go.bits .and .i64 a0 255)] rfl (by (try simp only [List.map_toArray, List.map_cons, List.map_nil]); first | done | rfl | (simp only [List.length_drop, List.length_take]; rfl)) ?_; (with_reducible refine (chars_Script.calls kj3 (Go.bits .and .i64 a0 255) t207 _ A20.out).mono ?_); rintro e w93 ⟨rfl, hb⟩; refine ⟨_, rfl, ?_⟩; have n0_ := Aside0.mk (below_step (by repeat (first | (with_reducible first | exact HB.out | apply below_alloc | apply pw_below_drewN | apply below_drew1) | exact HB.out)) hb); clear HB; have HB := n0_; clear n0_; (try clear hb); (try clear hb2); (try clear hk); (try clear hi)) | (go_at_call 18; (with_reducible refine (chars_Script.calls kj3 (Go.bits .and .i64 a0 255) t207 _ A89.out).mono ?_); rintro e w94 ⟨rfl, hb⟩; have n0_ := Aside0.mk (below_step (by repeat (first | (with_reducible first | exact HB.out | apply below_alloc | apply pw_below_drewN | apply below_drew1) | exact HB.out)) hb); clear HB; have HB := n0_; clear n0_; (try clear hb); (try clear hb2); (try clear hk); (try clear hi)))
                    go_ret
                    exact ⟨by first | rfl | (simp [errW_none, errW_some] <;> rfl) | (simp [*, errW_none, errW_some] <;> rfl), by repeat (first | (with_reducible first | exact HB.out | apply below_alloc | apply pw_below_drewN | apply below_drew1) | exact HB.out)⟩
                  · replace c91 := Bool.eq_false_iff.mpr c91
                    subst c91
                    have H1 : ((chars_Class.f kj3 (Go.bits .and .i64 a0 255)).bind fun t214 => (some (t214 == 6))) = some r := by rw [if_neg (show ¬ (false = true) by decide)] at H; exact H
                    clear H
                    have H := H1
                    clear H1
                    replace H := Option.bind_eq_some_iff.mp H
                    obtain ⟨t214, A950, H⟩ := H
                    replace H : (some (t214 == 6)) = some r := H
                    have A95 := Aside0.mk A950
                    clear A950
                    obtain rfl := Option.some.inj H
                    go_wp2_with (first | ((with_reducible refine gate_callee (f := 20) rfl ?_); refine goesL_ (some 35) rfl rfl Try.func20 (by kernel_rfl) rfl #[.int .i64 (Go.bits .and .i64 a0 255)] rfl (by (try simp only [List.map_toArray, List.map_cons, List.map_nil]); first | done | rfl | (simp only [List.length_drop, List.length_take]; rfl)) ?_; (with_reducible refine (chars_Strong.calls kj3 (Go.bits .and .i64 a0 255) t206 _ A19.out).mono ?_); rintro e w96 ⟨rfl, hb⟩; refine ⟨_, rfl, ?_⟩; have n0_ := Aside0.mk (below_step (by repeat (first | (with_reducible first | exact HB.out | apply below_alloc | apply pw_below_drewN | apply below_drew1) | exact HB.out)) hb); clear HB; have HB := n0_; clear n0_; (try clear hb); (try clear hb2); (try clear hk); (try clear hi)) | ((with_reducible refine gate_callee (f := 18) rfl ?_); refine goesL_ (some 38) rfl rfl Try.func18 (by kernel_rfl) rfl #[.int .i64 (Go.bits .and .i64 a0 255)] rfl (by (try simp only [List.map_toArray, List.map_cons, List.map_nil]); first | done | rfl | (simp only [List.length_drop, List.length_take]; rfl)) ?_; (with_reducible refine (chars_Script.calls kj3 (Go.bits .and .i64 a0 255) t207 _ A20.out).mono ?_); rintro e w97 ⟨rfl, hb⟩; refine ⟨_, rfl, ?_⟩; have n0_ := Aside0.mk (below_step (by repeat (first | (with_reducible first | exact HB.out | apply below_alloc | apply pw_below_drewN | apply below_drew1) | exact HB.out)) hb); clear HB; have HB := n0_; clear n0_; (try clear hb); (try clear hb2); (try clear hk); (try clear hi)) | (go_at_call 18; (with_reducible refine (chars_Script.calls kj3 (Go.bits .and .i64 a0 255) t207 _ A89.out).mono ?_); rintro e w98 ⟨rfl, hb⟩; have n0_ := Aside0.mk (below_step (by repeat (first | (with_reducible first | exact HB.out | apply below_alloc | apply pw_below_drewN | apply below_drew1) | exact HB.out)) hb); clear HB; have HB := n0_; clear n0_; (try clear hb); (try clear hb2); (try clear hk); (try clear hi)) | (go_at_call 19; (with_reducible refine (chars_Class.calls kj3 (Go.bits .and .i64 a0 255) t214 _ A95.out).mono ?_); rintro e w99 ⟨rfl, hb⟩; have n0_ := Aside0.mk (below_step (by repeat (first | (with_reducible first | exact HB.out | apply below_alloc | apply pw_below_drewN | apply below_drew1) | exact HB.out)) hb); clear HB; have HB := n0_; clear n0_; (try clear hb); (try clear hb2); (try clear hk); (try clear hi)))
                    go_ret
                    exact ⟨by first | rfl | (simp [errW_none, errW_some] <;> rfl) | (simp [*, errW_none, errW_some] <;> rfl), by repeat (first | (with_reducible first | exact HB.out | apply below_alloc | apply pw_below_drewN | apply below_drew1) | exact HB.out)⟩
                · rw [if_neg c90] at H
                  have c90b0 : (t207 == 2) = false := beq_eq_false_iff_ne.mpr c90
                  have c90b1 : (t207 != 2) = true := bne_iff_ne.mpr c90
                  obtain rfl := Option.some.inj H
                  go_wp2_with (first | ((with_reducible refine gate_callee (f := 20) rfl ?_); refine goesL_ (some 35) rfl rfl Try.func20 (by kernel_rfl) rfl #[.int .i64 (Go.bits .and .i64 a0 255)] rfl (by (try simp only [List.map_toArray, List.map_cons, List.map_nil]); first | done | rfl | (simp only [List.length_drop, List.length_take]; rfl)) ?_; (with_reducible refine (chars_Strong.calls kj3 (Go.bits .and .i64 a0 255) t206 _ A19.out).mono ?_); rintro e w100 ⟨rfl, hb⟩; refine ⟨_, rfl, ?_⟩; have n0_ := Aside0.mk (below_step (by repeat (first | (with_reducible first | exact HB.out | apply below_alloc | apply pw_below_drewN | apply below_drew1) | exact HB.out)) hb); clear HB; have HB := n0_; clear n0_; (try clear hb); (try clear hb2); (try clear hk); (try clear hi)) | ((with_reducible refine gate_callee (f := 18) rfl ?_); refine goesL_ (some 38) rfl rfl Try.func18 (by kernel_rfl) rfl #[.int .i64 (Go.bits .and .i64 a0 255)] rfl (by (try simp only [List.map_toArray, List.map_cons, List.map_nil]); first | done | rfl | (simp only [List.length_drop, List.length_take]; rfl)) ?_; (with_reducible refine (chars_Script.calls kj3 (Go.bits .and .i64 a0 255) t207 _ A20.out).mono ?_); rintro e w101 ⟨rfl, hb⟩; refine ⟨_, rfl, ?_⟩; have n0_ := Aside0.mk (below_step (by repeat (first | (with_reducible first | exact HB.out | apply below_alloc | apply pw_below_drewN | apply below_drew1) | exact HB.out)) hb); clear HB; have HB := n0_; clear n0_; (try clear hb); (try clear hb2); (try clear hk); (try clear hi)) | (go_at_call 18; (with_reducible refine (chars_Script.calls kj3 (Go.bits .and .i64 a0 255) t207 _ A89.out).mono ?_); rintro e w102 ⟨rfl, hb⟩; have n0_ := Aside0.mk (below_step (by repeat (first | (with_reducible first | exact HB.out | apply below_alloc | apply pw_below_drewN | apply below_drew1) | exact HB.out)) hb); clear HB; have HB := n0_; clear n0_; (try clear hb); (try clear hb2); (try clear hk); (try clear hi)))
                  go_ret
                  exact ⟨by first | rfl | (simp [errW_none, errW_some] <;> rfl) | (simp [*, errW_none, errW_some] <;> rfl), by repeat (first | (with_reducible first | exact HB.out | apply below_alloc | apply pw_below_drewN | apply below_drew1) | exact HB.out)⟩
              · rw [if_neg c88] at H
                have c88b0 : ((t206 != 0) == true) = false := by simpa using c88
                (try (have c88b1 : decide ((t206 != 0) = true) = false := by simpa using c88))
                (try (have c88b2 : ((t206 != 0) == true) = false := by simpa using c88))
                (try (have c88b3 : ¬ ((t206 != 0) = true) := by simpa using c88))
                clear c88
                obtain rfl := Option.some.inj H
                go_wp2_with (first | ((with_reducible refine gate_callee (f := 20) rfl ?_); refine goesL_ (some 35) rfl rfl Try.func20 (by kernel_rfl) rfl #[.int .i64 (Go.bits .and .i64 a0 255)] rfl (by (try simp only [List.map_toArray, List.map_cons, List.map_nil]); first | done | rfl | (simp only [List.length_drop, List.length_take]; rfl)) ?_; (with_reducible refine (chars_Strong.calls kj3 (Go.bits .and .i64 a0 255) t206 _ A19.out).mono ?_); rintro e w103 ⟨rfl, hb⟩; refine ⟨_, rfl, ?_⟩; have n0_ := Aside0.mk (below_step (by repeat (first | (with_reducible first | exact HB.out | apply below_alloc | apply pw_below_drewN | apply below_drew1) | exact HB.out)) hb); clear HB; have HB := n0_; clear n0_; (try clear hb); (try clear hb2); (try clear hk); (try clear hi)) | ((with_reducible refine gate_callee (f := 18) rfl ?_); refine goesL_ (some 38) rfl rfl Try.func18 (by kernel_rfl) rfl #[.int .i64 (Go.bits .and .i64 a0 255)] rfl (by (try simp only [List.map_toArray, List.map_cons, List.map_nil]); first | done | rfl | (simp only [List.length_drop, List.length_take]; rfl)) ?_; (with_reducible refine (chars_Script.calls kj3 (Go.bits .and .i64 a0 255) t207 _ A20.out).mono ?_); rintro e w104 ⟨rfl, hb⟩; refine ⟨_, rfl, ?_⟩; have n0_ := Aside0.mk (below_step (by repeat (first | (with_reducible first | exact HB.out | apply below_alloc | apply pw_below_drewN | apply below_drew1) | exact HB.out)) hb); clear HB; have HB := n0_; clear n0_; (try clear hb); (try clear hb2); (try clear hk); (try clear hi)))
                go_ret
                exact ⟨by first | rfl | (simp [errW_none, errW_some] <;> rfl) | (simp [*, errW_none, errW_some] <;> rfl), by repeat (first | (with_reducible first | exact HB.out | apply below_alloc | apply pw_below_drewN | apply below_drew1) | exact HB.out)⟩
          · replace c72 := Bool.eq_false_iff.mpr c72
            subst c72
            have H1 : (some false) = some r := by rw [if_neg (show ¬ (false = true) by decide)] at H; exact H
            clear H
            have H := H1
            clear H1
            obtain rfl := Option.some.inj H
            go_wp2_with (first | ((with_reducible refine gate_callee (f := 20) rfl ?_); refine goesL_ (some 35) rfl rfl Try.func20 (by kernel_rfl) rfl #[.int .i64 (Go.bits .and .i64 a0 255)] rfl (by (try simp only [List.map_toArray, List.map_cons, List.map_nil]); first | done | rfl | (simp only [List.length_drop, List.length_take]; rfl)) ?_; (with_reducible refine (chars_Strong.calls kj3 (Go.bits .and .i64 a0 255) t206 _ A19.out).mono ?_); rintro e w105 ⟨rfl, hb⟩; refine ⟨_, rfl, ?_⟩; have n0_ := Aside0.mk (below_step (by repeat (first | (with_reducible first | exact HB.out | apply below_alloc | apply pw_below_drewN | apply below_drew1) | exact HB.out)) hb); clear HB; have HB := n0_; clear n0_; (try clear hb); (try clear hb2); (try clear hk); (try clear hi)) | ((with_reducible refine gate_callee (f := 18) rfl ?_); refine goesL_ (some 38) rfl rfl Try.func18 (by kernel_rfl) rfl #[.int .i64 (Go.bits .and .i64 a0 255)] rfl (by (try simp only [List.map_toArray, List.map_cons, List.map_nil]); first | done | rfl | (simp only [List.length_drop, List.length_take]; rfl)) ?_; (with_reducible refine (chars_Script.calls kj3 (Go.bits .and .i64 a0 255) t207 _ A20.out).mono ?_); rintro e w106 ⟨rfl, hb⟩; refine ⟨_, rfl, ?_⟩; have n0_ := Aside0.mk (below_step (by repeat (first | (with_reducible first | exact HB.out | apply below_alloc | apply pw_below_drewN | apply below_drew1) | exact HB.out)) hb); clear HB; have HB := n0_; clear n0_; (try clear hb); (try clear hb2); (try clear hk); (try clear hi)))
            go_ret
            exact ⟨by first | rfl | (simp [errW_none, errW_some] <;> rfl) | (simp [*, errW_none, errW_some] <;> rfl), by repeat (first | (with_reducible first | exact HB.out | apply below_alloc | apply pw_below_drewN | apply below_drew1) | exact HB.out)⟩
        · replace c71 := Bool.eq_false_iff.mpr c71
          subst c71
          have H1 : (some false) = some r := by rw [if_neg (show ¬ (false = true) by decide)] at H; exact H
          clear H
          have H := H1
          clear H1
          obtain rfl := Option.some.inj H
          go_wp2_with (first | ((with_reducible refine gate_callee (f := 20) rfl ?_); refine goesL_ (some 35) rfl rfl Try.func20 (by kernel_rfl) rfl #[.int .i64 (Go.bits .and .i64 a0 255)] rfl (by (try simp only [List.map_toArray, List.map_cons, List.map_nil]); first | done | rfl | (simp only [List.length_drop, List.length_take]; rfl)) ?_; (with_reducible refine (chars_Strong.calls kj3 (Go.bits .and .i64 a0 255) t206 _ A19.out).mono ?_); rintro e w107 ⟨rfl, hb⟩; refine ⟨_, rfl, ?_⟩; have n0_ := Aside0.mk (below_step (by repeat (first | (with_reducible first | exact HB.out | apply below_alloc | apply pw_below_drewN | apply below_drew1) | exact HB.out)) hb); clear HB; have HB := n0_; clear n0_; (try clear hb); (try clear hb2); (try clear hk); (try clear hi)) | ((with_reducible refine gate_callee (f := 18) rfl ?_); refine goesL_ (some 38) rfl rfl Try.func18 (by kernel_rfl) rfl #[.int .i64 (Go.bits .and .i64 a0 255)] rfl (by (try simp only [List.map_toArray, List.map_cons, List.map_nil]); first | done | rfl | (simp only [List.length_drop, List.length_take]; rfl)) ?_; (with_reducible refine (chars_Script.calls kj3 (Go.bits .and .i64 a0 255) t207 _ A20.out).mono ?_); rintro e w108 ⟨rfl, hb⟩; refine ⟨_, rfl, ?_⟩; have n0_ := Aside0.mk (below_step (by repeat (first | (with_reducible first | exact HB.out | apply below_alloc | apply pw_below_drewN | apply below_drew1) | exact HB.out)) hb); clear HB; have HB := n0_; clear n0_; (try clear hb); (try clear hb2); (try clear hk); (try clear hi)))
          go_ret
          exact ⟨by first | rfl | (simp [errW_none, errW_some] <;> rfl) | (simp [*, errW_none, errW_some] <;> rfl), by repeat (first | (with_reducible first | exact HB.out | apply below_alloc | apply pw_below_drewN | apply below_drew1) | exact HB.out)⟩

/-- THE ONE PURE STATEMENT of abugidalaw05_CharsJoins: yours. -/
def abugidalaw05_CharsJoins.Pure : Prop := ∀ (a0 : Int), (Lit.int .i64 a0).wf = true → ∃ k, abugidalaw05_CharsJoins.f k a0 = some true
theorem abugidalaw05_CharsJoins.walk (P : abugidalaw05_CharsJoins.Pure) (a0 : Int) (w : World) (w0 : (Lit.int .i64 a0).wf = true) :
    Calls Try.prog 7 #[.int .i64 a0] w fun e w' => e = .returned (.bool true) ∧ Below w.heap.size w w' := by
  obtain ⟨k, h⟩ := P a0 w0
  refine (abugidalaw05_CharsJoins.calls k a0 true w h).mono ?_
  rintro e w' ⟨rfl, hd⟩
  exact ⟨rfl, hd⟩

end Go.Proofs.Ytmgiapmkggkmhaa.Q

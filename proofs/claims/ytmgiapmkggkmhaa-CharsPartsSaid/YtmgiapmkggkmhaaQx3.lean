-- Written by wip/tools/myprint.py, a program of this session that drives the kit's print.py; not a text of print.sh.
import Derived.Test.YtmgiapmkggkmhaaQx0
import Derived.Test.YtmgiapmkggkmhaaQx2
namespace Go.Proofs.Ytmgiapmkggkmhaa.Q
open Go.RowKit Go.Proofs.YtmgiapmkggkmhaaW.PrintWords Go.Proofs.YtmgiapmkggkmhaaW.PrintLast Go.Proofs.YtmgiapmkggkmhaaW.PrintMore
attribute [local go_sem] max2_int min2_int max_two min_two max_three min_three max_four min_four   -- for this text's walks alone
set_option linter.unusedVariables false
set_option linter.unusedSimpArgs false

/-! ### abugidalaw05_sanity: function 8 -/
mutual
def abugidalaw05_sanity.j0 : Nat → Bool → Option (Bool)
  | 0, _ => none
  | k + 1, x1 => (abugidalaw05_is.f k 104 7 2 2 false).bind fun t135 => (if t135 = true then ((abugidalaw05_is.f k 128 8 2 2 false).bind fun t136 => (if t136 = true then ((abugidalaw05_is.f k 184 10 3 1 true).bind fun t137 => (if t137 = true then ((abugidalaw05_is.f k 192 12 3 1 true).bind fun t138 => (if t138 = true then ((abugidalaw05_is.f k 240 13 0 0 true).bind fun t139 => (if t139 = true then ((abugidalaw05_is.f k 256 0 0 0 false).bind fun t140 => (abugidalaw05_sanity.j1 k x1 t140)) else (abugidalaw05_sanity.j1 k x1 false))) else (abugidalaw05_sanity.j1 k x1 false))) else (abugidalaw05_sanity.j1 k x1 false))) else (abugidalaw05_sanity.j1 k x1 false))) else (abugidalaw05_sanity.j1 k x1 false))
def abugidalaw05_sanity.j1 : Nat → Bool → Bool → Option (Bool)
  | 0, _, _ => none
  | k + 1, x1, x2 => (chars_Joins.f k 104).bind fun bt141 => ((chars_Joins.f k 128).bind fun bt143 => ((chars_Joins.f k 64).bind fun bt145 => (if x1 = true then (if x2 = true then (if bt141.1 = true then (if bt141.2 = true then (if bt143.1 = true then (if bt143.2 = true then (some false) else (if bt145.1 = true then (some false) else (if bt145.2 = true then (some false) else ((chars_Codes.f k 1).bind fun t147 => (if (t147.length : Int) = 40 then ((chars_Codes.f k 2).bind fun t150 => (if (t150.length : Int) = 48 then ((chars_Codes.f k 3).bind fun t153 => (some ((t153.length : Int) == 56))) else (some false))) else (some false)))))) else (some false)) else (some false)) else (some false)) else (some false)) else (some false))))
end
def abugidalaw05_sanity.f (k : Nat)  : Option (Bool) := (abugidalaw05_is.f k 10 1 0 0 false).bind fun t129 => (if t129 = true then ((abugidalaw05_is.f k 32 2 0 0 false).bind fun t130 => (if t130 = true then ((abugidalaw05_is.f k 48 3 0 3 false).bind fun t131 => (if t131 = true then ((abugidalaw05_is.f k 58 0 0 0 false).bind fun t132 => (if t132 = true then ((abugidalaw05_is.f k 64 5 1 1 false).bind fun t133 => (if t133 = true then ((abugidalaw05_is.f k 103 6 1 1 true).bind fun t134 => (abugidalaw05_sanity.j0 k t134)) else (abugidalaw05_sanity.j0 k false))) else (abugidalaw05_sanity.j0 k false))) else (abugidalaw05_sanity.j0 k false))) else (abugidalaw05_sanity.j0 k false))) else (abugidalaw05_sanity.j0 k false))
theorem abugidalaw05_sanity.mono_l : ∀ k, (∀ y0, LeO (abugidalaw05_sanity.j0 k y0) (abugidalaw05_sanity.j0 (k + 1) y0)) ∧ (∀ y0 y1, LeO (abugidalaw05_sanity.j1 k y0 y1) (abugidalaw05_sanity.j1 (k + 1) y0 y1))
  | 0 => ⟨fun _ r h => by simp [abugidalaw05_sanity.j0] at h, fun _ _ r h => by simp [abugidalaw05_sanity.j1] at h⟩
  | k + 1 => by
    obtain ⟨ih0, ih1⟩ := abugidalaw05_sanity.mono_l k
    refine ⟨?_, ?_⟩
    · intro y0
      unfold abugidalaw05_sanity.j0
      repeat' first
      | (with_reducible exact ih0 _)
      | (with_reducible exact ih1 _ _)
      | (with_reducible exact abugidalaw05_is.mono _ _ _ _ _ _)
      | (with_reducible exact chars_Codes.mono _ _)
      | (with_reducible exact chars_Joins.mono _ _)
      | (with_reducible exact LeO.refl _)
      | (with_reducible exact LeO.none _)
      | (with_reducible refine LeO.ite ?_ ?_)
      | (with_reducible refine LeO.bind ?_ (fun _ => ?_))
      | exact ih0 _
      | exact ih1 _ _
      | exact abugidalaw05_is.mono _ _ _ _ _ _
      | exact chars_Codes.mono _ _
      | exact chars_Joins.mono _ _
      | exact LeO.none _
      | refine LeO.ite ?_ ?_
      | refine LeO.bind ?_ (fun _ => ?_)
    · intro y0 y1
      unfold abugidalaw05_sanity.j1
      repeat' first
      | (with_reducible exact ih0 _)
      | (with_reducible exact ih1 _ _)
      | (with_reducible exact abugidalaw05_is.mono _ _ _ _ _ _)
      | (with_reducible exact chars_Codes.mono _ _)
      | (with_reducible exact chars_Joins.mono _ _)
      | (with_reducible exact LeO.refl _)
      | (with_reducible exact LeO.none _)
      | (with_reducible refine LeO.ite ?_ ?_)
      | (with_reducible refine LeO.bind ?_ (fun _ => ?_))
      | exact ih0 _
      | exact ih1 _ _
      | exact abugidalaw05_is.mono _ _ _ _ _ _
      | exact chars_Codes.mono _ _
      | exact chars_Joins.mono _ _
      | exact LeO.none _
      | refine LeO.ite ?_ ?_
      | refine LeO.bind ?_ (fun _ => ?_)
theorem abugidalaw05_sanity.mono : ∀ k, LeO (abugidalaw05_sanity.f k ) (abugidalaw05_sanity.f (k + 1) ) := by
  intro  k
  obtain ⟨ih0, ih1⟩ := abugidalaw05_sanity.mono_l k
  unfold abugidalaw05_sanity.f
  repeat' first
      | (with_reducible exact ih0 _)
      | (with_reducible exact ih1 _ _)
      | (with_reducible exact abugidalaw05_is.mono _ _ _ _ _ _)
      | (with_reducible exact chars_Codes.mono _ _)
      | (with_reducible exact chars_Joins.mono _ _)
      | (with_reducible exact LeO.refl _)
      | (with_reducible exact LeO.none _)
      | (with_reducible refine LeO.ite ?_ ?_)
      | (with_reducible refine LeO.bind ?_ (fun _ => ?_))
      | exact ih0 _
      | exact ih1 _ _
      | exact abugidalaw05_is.mono _ _ _ _ _ _
      | exact chars_Codes.mono _ _
      | exact chars_Joins.mono _ _
      | exact LeO.none _
      | refine LeO.ite ?_ ?_
      | refine LeO.bind ?_ (fun _ => ?_)
set_option maxHeartbeats 8000000 in
set_option maxRecDepth 100000 in
theorem abugidalaw05_sanity.calls (k : Nat)  (r : Bool) (w : World) (h : abugidalaw05_sanity.f k  = some r) :
    Calls Try.prog 8 #[] w fun e w' => e = .returned (.bool r) ∧ Below w.heap.size w w' := by
  have HB := Aside0.mk (Below.refl w.heap.size w)
  have H : ((abugidalaw05_is.f k 10 1 0 0 false).bind fun t129 => (if t129 = true then ((abugidalaw05_is.f k 32 2 0 0 false).bind fun t130 => (if t130 = true then ((abugidalaw05_is.f k 48 3 0 3 false).bind fun t131 => (if t131 = true then ((abugidalaw05_is.f k 58 0 0 0 false).bind fun t132 => (if t132 = true then ((abugidalaw05_is.f k 64 5 1 1 false).bind fun t133 => (if t133 = true then ((abugidalaw05_is.f k 103 6 1 1 true).bind fun t134 => (abugidalaw05_sanity.j0 k t134)) else (abugidalaw05_sanity.j0 k false))) else (abugidalaw05_sanity.j0 k false))) else (abugidalaw05_sanity.j0 k false))) else (abugidalaw05_sanity.j0 k false))) else (abugidalaw05_sanity.j0 k false))) = some r := h
  clear h
  have HC1 := Aside0.mk H
  clear H
  go_enter Try.func8, Try.ntmps8
  go_upto_region 1 with (fail)
  go_cut [1] (fun v1 wc => ∃ (kq : Nat) (x1_0 : Bool), v1 = .bool x1_0 ∧ Aside0 (abugidalaw05_sanity.j0 kq x1_0 = some r) ∧ Aside0 (kq ≤ k) ∧ Aside0 (Below w.heap.size w wc))
  case first =>
    have H := HC1.out
    clear HC1
    replace H := Option.bind_eq_some_iff.mp H
    obtain ⟨t129, A20, H⟩ := H
    replace H : (if t129 = true then ((abugidalaw05_is.f k 32 2 0 0 false).bind fun t130 => (if t130 = true then ((abugidalaw05_is.f k 48 3 0 3 false).bind fun t131 => (if t131 = true then ((abugidalaw05_is.f k 58 0 0 0 false).bind fun t132 => (if t132 = true then ((abugidalaw05_is.f k 64 5 1 1 false).bind fun t133 => (if t133 = true then ((abugidalaw05_is.f k 103 6 1 1 true).bind fun t134 => (abugidalaw05_sanity.j0 k t134)) else (abugidalaw05_sanity.j0 k false))) else (abugidalaw05_sanity.j0 k false))) else (abugidalaw05_sanity.j0 k false))) else (abugidalaw05_sanity.j0 k false))) else (abugidalaw05_sanity.j0 k false)) = some r := H
    have A2 := Aside0.mk A20
    clear A20
    by_cases c3 : t129 = true
    · subst c3
      have H1 : ((abugidalaw05_is.f k 32 2 0 0 false).bind fun t130 => (if t130 = true then ((abugidalaw05_is.f k 48 3 0 3 false).bind fun t131 => (if t131 = true then ((abugidalaw05_is.f k 58 0 0 0 false).bind fun t132 => (if t132 = true then ((abugidalaw05_is.f k 64 5 1 1 false).bind fun t133 => (if t133 = true then ((abugidalaw05_is.f k 103 6 1 1 true).bind fun t134 => (abugidalaw05_sanity.j0 k t134)) else (abugidalaw05_sanity.j0 k false))) else (abugidalaw05_sanity.j0 k false))) else (abugidalaw05_sanity.j0 k false))) else (abugidalaw05_sanity.j0 k false))) = some r := by rw [if_pos rfl] at H; exact H
      clear H
      have H := H1
      clear H1
      replace H := Option.bind_eq_some_iff.mp H
      obtain ⟨t130, A40, H⟩ := H
      replace H : (if t130 = true then ((abugidalaw05_is.f k 48 3 0 3 false).bind fun t131 => (if t131 = true then ((abugidalaw05_is.f k 58 0 0 0 false).bind fun t132 => (if t132 = true then ((abugidalaw05_is.f k 64 5 1 1 false).bind fun t133 => (if t133 = true then ((abugidalaw05_is.f k 103 6 1 1 true).bind fun t134 => (abugidalaw05_sanity.j0 k t134)) else (abugidalaw05_sanity.j0 k false))) else (abugidalaw05_sanity.j0 k false))) else (abugidalaw05_sanity.j0 k false))) else (abugidalaw05_sanity.j0 k false)) = some r := H
      have A4 := Aside0.mk A40
      clear A40
      by_cases c5 : t130 = true
      · subst c5
        have H1 : ((abugidalaw05_is.f k 48 3 0 3 false).bind fun t131 => (if t131 = true then ((abugidalaw05_is.f k 58 0 0 0 false).bind fun t132 => (if t132 = true then ((abugidalaw05_is.f k 64 5 1 1 false).bind fun t133 => (if t133 = true then ((abugidalaw05_is.f k 103 6 1 1 true).bind fun t134 => (abugidalaw05_sanity.j0 k t134)) else (abugidalaw05_sanity.j0 k false))) else (abugidalaw05_sanity.j0 k false))) else (abugidalaw05_sanity.j0 k false))) = some r := by rw [if_pos rfl] at H; exact H
        clear H
        have H := H1
        clear H1
        replace H := Option.bind_eq_some_iff.mp H
        obtain ⟨t131, A60, H⟩ := H
        replace H : (if t131 = true then ((abugidalaw05_is.f k 58 0 0 0 false).bind fun t132 => (if t132 = true then ((abugidalaw05_is.f k 64 5 1 1 false).bind fun t133 => (if t133 = true then ((abugidalaw05_is.f k 103 6 1 1 true).bind fun t134 => (abugidalaw05_sanity.j0 k t134)) else (abugidalaw05_sanity.j0 k false))) else (abugidalaw05_sanity.j0 k false))) else (abugidalaw05_sanity.j0 k false)) = some r := H
        have A6 := Aside0.mk A60
        clear A60
        by_cases c7 : t131 = true
        · subst c7
          have H1 : ((abugidalaw05_is.f k 58 0 0 0 false).bind fun t132 => (if t132 = true then ((abugidalaw05_is.f k 64 5 1 1 false).bind fun t133 => (if t133 = true then ((abugidalaw05_is.f k 103 6 1 1 true).bind fun t134 => (abugidalaw05_sanity.j0 k t134)) else (abugidalaw05_sanity.j0 k false))) else (abugidalaw05_sanity.j0 k false))) = some r := by rw [if_pos rfl] at H; exact H
          clear H
          have H := H1
          clear H1
          replace H := Option.bind_eq_some_iff.mp H
          obtain ⟨t132, A80, H⟩ := H
          replace H : (if t132 = true then ((abugidalaw05_is.f k 64 5 1 1 false).bind fun t133 => (if t133 = true then ((abugidalaw05_is.f k 103 6 1 1 true).bind fun t134 => (abugidalaw05_sanity.j0 k t134)) else (abugidalaw05_sanity.j0 k false))) else (abugidalaw05_sanity.j0 k false)) = some r := H
          have A8 := Aside0.mk A80
          clear A80
          by_cases c9 : t132 = true
          · subst c9
            have H1 : ((abugidalaw05_is.f k 64 5 1 1 false).bind fun t133 => (if t133 = true then ((abugidalaw05_is.f k 103 6 1 1 true).bind fun t134 => (abugidalaw05_sanity.j0 k t134)) else (abugidalaw05_sanity.j0 k false))) = some r := by rw [if_pos rfl] at H; exact H
            clear H
            have H := H1
            clear H1
            replace H := Option.bind_eq_some_iff.mp H
            obtain ⟨t133, A100, H⟩ := H
            replace H : (if t133 = true then ((abugidalaw05_is.f k 103 6 1 1 true).bind fun t134 => (abugidalaw05_sanity.j0 k t134)) else (abugidalaw05_sanity.j0 k false)) = some r := H
            have A10 := Aside0.mk A100
            clear A100
            by_cases c11 : t133 = true
            · subst c11
              have H1 : ((abugidalaw05_is.f k 103 6 1 1 true).bind fun t134 => (abugidalaw05_sanity.j0 k t134)) = some r := by rw [if_pos rfl] at H; exact H
              clear H
              have H := H1
              clear H1
              replace H := Option.bind_eq_some_iff.mp H
              obtain ⟨t134, A120, H⟩ := H
              replace H : (abugidalaw05_sanity.j0 k t134) = some r := H
              have A12 := Aside0.mk A120
              clear A120
              have H' := Aside0.mk H
              clear H
              go_wp2_with (first | ((with_reducible refine gate_callee (f := 11) rfl ?_); refine goesL_ (some 9) rfl rfl Try.func11 (by kernel_rfl) rfl #[.int .i64 10, .int .i64 1, .int .i64 0, .int .i64 0, .bool false] rfl (by (try simp only [List.map_toArray, List.map_cons, List.map_nil]); first | done | rfl | (simp only [List.length_drop, List.length_take]; rfl)) ?_; (with_reducible refine (abugidalaw05_is.calls k 10 1 0 0 false true _ A2.out).mono ?_); rintro e w13 ⟨rfl, hb⟩; refine ⟨_, rfl, ?_⟩; have n0_ := Aside0.mk (below_step (by repeat (first | (with_reducible first | exact HB.out | apply below_alloc | apply pw_below_drewN | apply below_drew1) | exact HB.out)) hb); clear HB; have HB := n0_; clear n0_; (try clear hb); (try clear hb2); (try clear hk); (try clear hi)) | (go_at_call 11; (with_reducible refine (abugidalaw05_is.calls k 32 2 0 0 false true _ A4.out).mono ?_); rintro e w14 ⟨rfl, hb⟩; have n0_ := Aside0.mk (below_step (by repeat (first | (with_reducible first | exact HB.out | apply below_alloc | apply pw_below_drewN | apply below_drew1) | exact HB.out)) hb); clear HB; have HB := n0_; clear n0_; (try clear hb); (try clear hb2); (try clear hk); (try clear hi)) | (go_at_call 11; (with_reducible refine (abugidalaw05_is.calls k 48 3 0 3 false true _ A6.out).mono ?_); rintro e w15 ⟨rfl, hb⟩; have n0_ := Aside0.mk (below_step (by repeat (first | (with_reducible first | exact HB.out | apply below_alloc | apply pw_below_drewN | apply below_drew1) | exact HB.out)) hb); clear HB; have HB := n0_; clear n0_; (try clear hb); (try clear hb2); (try clear hk); (try clear hi)) | (go_at_call 11; (with_reducible refine (abugidalaw05_is.calls k 58 0 0 0 false true _ A8.out).mono ?_); rintro e w16 ⟨rfl, hb⟩; have n0_ := Aside0.mk (below_step (by repeat (first | (with_reducible first | exact HB.out | apply below_alloc | apply pw_below_drewN | apply below_drew1) | exact HB.out)) hb); clear HB; have HB := n0_; clear n0_; (try clear hb); (try clear hb2); (try clear hk); (try clear hi)) | (go_at_call 11; (with_reducible refine (abugidalaw05_is.calls k 64 5 1 1 false true _ A10.out).mono ?_); rintro e w17 ⟨rfl, hb⟩; have n0_ := Aside0.mk (below_step (by repeat (first | (with_reducible first | exact HB.out | apply below_alloc | apply pw_below_drewN | apply below_drew1) | exact HB.out)) hb); clear HB; have HB := n0_; clear n0_; (try clear hb); (try clear hb2); (try clear hk); (try clear hi)) | (go_at_call 11; (with_reducible refine (abugidalaw05_is.calls k 103 6 1 1 true t134 _ A12.out).mono ?_); rintro e w18 ⟨rfl, hb⟩; have n0_ := Aside0.mk (below_step (by repeat (first | (with_reducible first | exact HB.out | apply below_alloc | apply pw_below_drewN | apply below_drew1) | exact HB.out)) hb); clear HB; have HB := n0_; clear n0_; (try clear hb); (try clear hb2); (try clear hk); (try clear hi)))
              go_meet
              case rel => exact ⟨_, (t134), (by first | rfl | (simp; done) | (simp [*]; done)), H', ⟨by first | omega | exact Nat.le_refl _⟩, ⟨by repeat (first | (with_reducible first | exact HB.out | apply below_alloc | apply pw_below_drewN | apply below_drew1) | exact HB.out)⟩⟩
            · replace c11 := Bool.eq_false_iff.mpr c11
              subst c11
              have H1 : (abugidalaw05_sanity.j0 k false) = some r := by rw [if_neg (show ¬ (false = true) by decide)] at H; exact H
              clear H
              have H := H1
              clear H1
              have H' := Aside0.mk H
              clear H
              go_wp2_with (first | ((with_reducible refine gate_callee (f := 11) rfl ?_); refine goesL_ (some 9) rfl rfl Try.func11 (by kernel_rfl) rfl #[.int .i64 10, .int .i64 1, .int .i64 0, .int .i64 0, .bool false] rfl (by (try simp only [List.map_toArray, List.map_cons, List.map_nil]); first | done | rfl | (simp only [List.length_drop, List.length_take]; rfl)) ?_; (with_reducible refine (abugidalaw05_is.calls k 10 1 0 0 false true _ A2.out).mono ?_); rintro e w19 ⟨rfl, hb⟩; refine ⟨_, rfl, ?_⟩; have n0_ := Aside0.mk (below_step (by repeat (first | (with_reducible first | exact HB.out | apply below_alloc | apply pw_below_drewN | apply below_drew1) | exact HB.out)) hb); clear HB; have HB := n0_; clear n0_; (try clear hb); (try clear hb2); (try clear hk); (try clear hi)) | (go_at_call 11; (with_reducible refine (abugidalaw05_is.calls k 32 2 0 0 false true _ A4.out).mono ?_); rintro e w20 ⟨rfl, hb⟩; have n0_ := Aside0.mk (below_step (by repeat (first | (with_reducible first | exact HB.out | apply below_alloc | apply pw_below_drewN | apply below_drew1) | exact HB.out)) hb); clear HB; have HB := n0_; clear n0_; (try clear hb); (try clear hb2); (try clear hk); (try clear hi)) | (go_at_call 11; (with_reducible refine (abugidalaw05_is.calls k 48 3 0 3 false true _ A6.out).mono ?_); rintro e w21 ⟨rfl, hb⟩; have n0_ := Aside0.mk (below_step (by repeat (first | (with_reducible first | exact HB.out | apply below_alloc | apply pw_below_drewN | apply below_drew1) | exact HB.out)) hb); clear HB; have HB := n0_; clear n0_; (try clear hb); (try clear hb2); (try clear hk); (try clear hi)) | (go_at_call 11; (with_reducible refine (abugidalaw05_is.calls k 58 0 0 0 false true _ A8.out).mono ?_); rintro e w22 ⟨rfl, hb⟩; have n0_ := Aside0.mk (below_step (by repeat (first | (with_reducible first | exact HB.out | apply below_alloc | apply pw_below_drewN | apply below_drew1) | exact HB.out)) hb); clear HB; have HB := n0_; clear n0_; (try clear hb); (try clear hb2); (try clear hk); (try clear hi)) | (go_at_call 11; (with_reducible refine (abugidalaw05_is.calls k 64 5 1 1 false false _ A10.out).mono ?_); rintro e w23 ⟨rfl, hb⟩; have n0_ := Aside0.mk (below_step (by repeat (first | (with_reducible first | exact HB.out | apply below_alloc | apply pw_below_drewN | apply below_drew1) | exact HB.out)) hb); clear HB; have HB := n0_; clear n0_; (try clear hb); (try clear hb2); (try clear hk); (try clear hi)))
              go_meet
              case rel => exact ⟨_, (false), (by first | rfl | (simp; done) | (simp [*]; done)), H', ⟨by first | omega | exact Nat.le_refl _⟩, ⟨by repeat (first | (with_reducible first | exact HB.out | apply below_alloc | apply pw_below_drewN | apply below_drew1) | exact HB.out)⟩⟩
          · replace c9 := Bool.eq_false_iff.mpr c9
            subst c9
            have H1 : (abugidalaw05_sanity.j0 k false) = some r := by rw [if_neg (show ¬ (false = true) by decide)] at H; exact H
            clear H
            have H := H1
            clear H1
            have H' := Aside0.mk H
            clear H
            go_wp2_with (first | ((with_reducible refine gate_callee (f := 11) rfl ?_); refine goesL_ (some 9) rfl rfl Try.func11 (by kernel_rfl) rfl #[.int .i64 10, .int .i64 1, .int .i64 0, .int .i64 0, .bool false] rfl (by (try simp only [List.map_toArray, List.map_cons, List.map_nil]); first | done | rfl | (simp only [List.length_drop, List.length_take]; rfl)) ?_; (with_reducible refine (abugidalaw05_is.calls k 10 1 0 0 false true _ A2.out).mono ?_); rintro e w24 ⟨rfl, hb⟩; refine ⟨_, rfl, ?_⟩; have n0_ := Aside0.mk (below_step (by repeat (first | (with_reducible first | exact HB.out | apply below_alloc | apply pw_below_drewN | apply below_drew1) | exact HB.out)) hb); clear HB; have HB := n0_; clear n0_; (try clear hb); (try clear hb2); (try clear hk); (try clear hi)) | (go_at_call 11; (with_reducible refine (abugidalaw05_is.calls k 32 2 0 0 false true _ A4.out).mono ?_); rintro e w25 ⟨rfl, hb⟩; have n0_ := Aside0.mk (below_step (by repeat (first | (with_reducible first | exact HB.out | apply below_alloc | apply pw_below_drewN | apply below_drew1) | exact HB.out)) hb); clear HB; have HB := n0_; clear n0_; (try clear hb); (try clear hb2); (try clear hk); (try clear hi)) | (go_at_call 11; (with_reducible refine (abugidalaw05_is.calls k 48 3 0 3 false true _ A6.out).mono ?_); rintro e w26 ⟨rfl, hb⟩; have n0_ := Aside0.mk (below_step (by repeat (first | (with_reducible first | exact HB.out | apply below_alloc | apply pw_below_drewN | apply below_drew1) | exact HB.out)) hb); clear HB; have HB := n0_; clear n0_; (try clear hb); (try clear hb2); (try clear hk); (try clear hi)) | (go_at_call 11; (with_reducible refine (abugidalaw05_is.calls k 58 0 0 0 false false _ A8.out).mono ?_); rintro e w27 ⟨rfl, hb⟩; have n0_ := Aside0.mk (below_step (by repeat (first | (with_reducible first | exact HB.out | apply below_alloc | apply pw_below_drewN | apply below_drew1) | exact HB.out)) hb); clear HB; have HB := n0_; clear n0_; (try clear hb); (try clear hb2); (try clear hk); (try clear hi)))
            go_meet
            case rel => exact ⟨_, (false), (by first | rfl | (simp; done) | (simp [*]; done)), H', ⟨by first | omega | exact Nat.le_refl _⟩, ⟨by repeat (first | (with_reducible first | exact HB.out | apply below_alloc | apply pw_below_drewN | apply below_drew1) | exact HB.out)⟩⟩
        · replace c7 := Bool.eq_false_iff.mpr c7
          subst c7
          have H1 : (abugidalaw05_sanity.j0 k false) = some r := by rw [if_neg (show ¬ (false = true) by decide)] at H; exact H
          clear H
          have H := H1
          clear H1
          have H' := Aside0.mk H
          clear H
          go_wp2_with (first | ((with_reducible refine gate_callee (f := 11) rfl ?_); refine goesL_ (some 9) rfl rfl Try.func11 (by kernel_rfl) rfl #[.int .i64 10, .int .i64 1, .int .i64 0, .int .i64 0, .bool false] rfl (by (try simp only [List.map_toArray, List.map_cons, List.map_nil]); first | done | rfl | (simp only [List.length_drop, List.length_take]; rfl)) ?_; (with_reducible refine (abugidalaw05_is.calls k 10 1 0 0 false true _ A2.out).mono ?_); rintro e w28 ⟨rfl, hb⟩; refine ⟨_, rfl, ?_⟩; have n0_ := Aside0.mk (below_step (by repeat (first | (with_reducible first | exact HB.out | apply below_alloc | apply pw_below_drewN | apply below_drew1) | exact HB.out)) hb); clear HB; have HB := n0_; clear n0_; (try clear hb); (try clear hb2); (try clear hk); (try clear hi)) | (go_at_call 11; (with_reducible refine (abugidalaw05_is.calls k 32 2 0 0 false true _ A4.out).mono ?_); rintro e w29 ⟨rfl, hb⟩; have n0_ := Aside0.mk (below_step (by repeat (first | (with_reducible first | exact HB.out | apply below_alloc | apply pw_below_drewN | apply below_drew1) | exact HB.out)) hb); clear HB; have HB := n0_; clear n0_; (try clear hb); (try clear hb2); (try clear hk); (try clear hi)) | (go_at_call 11; (with_reducible refine (abugidalaw05_is.calls k 48 3 0 3 false false _ A6.out).mono ?_); rintro e w30 ⟨rfl, hb⟩; have n0_ := Aside0.mk (below_step (by repeat (first | (with_reducible first | exact HB.out | apply below_alloc | apply pw_below_drewN | apply below_drew1) | exact HB.out)) hb); clear HB; have HB := n0_; clear n0_; (try clear hb); (try clear hb2); (try clear hk); (try clear hi)))
          go_meet
          case rel => exact ⟨_, (false), (by first | rfl | (simp; done) | (simp [*]; done)), H', ⟨by first | omega | exact Nat.le_refl _⟩, ⟨by repeat (first | (with_reducible first | exact HB.out | apply below_alloc | apply pw_below_drewN | apply below_drew1) | exact HB.out)⟩⟩
      · replace c5 := Bool.eq_false_iff.mpr c5
        subst c5
        have H1 : (abugidalaw05_sanity.j0 k false) = some r := by rw [if_neg (show ¬ (false = true) by decide)] at H; exact H
        clear H
        have H := H1
        clear H1
        have H' := Aside0.mk H
        clear H
        go_wp2_with (first | ((with_reducible refine gate_callee (f := 11) rfl ?_); refine goesL_ (some 9) rfl rfl Try.func11 (by kernel_rfl) rfl #[.int .i64 10, .int .i64 1, .int .i64 0, .int .i64 0, .bool false] rfl (by (try simp only [List.map_toArray, List.map_cons, List.map_nil]); first | done | rfl | (simp only [List.length_drop, List.length_take]; rfl)) ?_; (with_reducible refine (abugidalaw05_is.calls k 10 1 0 0 false true _ A2.out).mono ?_); rintro e w31 ⟨rfl, hb⟩; refine ⟨_, rfl, ?_⟩; have n0_ := Aside0.mk (below_step (by repeat (first | (with_reducible first | exact HB.out | apply below_alloc | apply pw_below_drewN | apply below_drew1) | exact HB.out)) hb); clear HB; have HB := n0_; clear n0_; (try clear hb); (try clear hb2); (try clear hk); (try clear hi)) | (go_at_call 11; (with_reducible refine (abugidalaw05_is.calls k 32 2 0 0 false false _ A4.out).mono ?_); rintro e w32 ⟨rfl, hb⟩; have n0_ := Aside0.mk (below_step (by repeat (first | (with_reducible first | exact HB.out | apply below_alloc | apply pw_below_drewN | apply below_drew1) | exact HB.out)) hb); clear HB; have HB := n0_; clear n0_; (try clear hb); (try clear hb2); (try clear hk); (try clear hi)))
        go_meet
        case rel => exact ⟨_, (false), (by first | rfl | (simp; done) | (simp [*]; done)), H', ⟨by first | omega | exact Nat.le_refl _⟩, ⟨by repeat (first | (with_reducible first | exact HB.out | apply below_alloc | apply pw_below_drewN | apply below_drew1) | exact HB.out)⟩⟩
    · replace c3 := Bool.eq_false_iff.mpr c3
      subst c3
      have H1 : (abugidalaw05_sanity.j0 k false) = some r := by rw [if_neg (show ¬ (false = true) by decide)] at H; exact H
      clear H
      have H := H1
      clear H1
      have H' := Aside0.mk H
      clear H
      go_wp2_with (first | ((with_reducible refine gate_callee (f := 11) rfl ?_); refine goesL_ (some 9) rfl rfl Try.func11 (by kernel_rfl) rfl #[.int .i64 10, .int .i64 1, .int .i64 0, .int .i64 0, .bool false] rfl (by (try simp only [List.map_toArray, List.map_cons, List.map_nil]); first | done | rfl | (simp only [List.length_drop, List.length_take]; rfl)) ?_; (with_reducible refine (abugidalaw05_is.calls k 10 1 0 0 false false _ A2.out).mono ?_); rintro e w33 ⟨rfl, hb⟩; refine ⟨_, rfl, ?_⟩; have n0_ := Aside0.mk (below_step (by repeat (first | (with_reducible first | exact HB.out | apply below_alloc | apply pw_below_drewN | apply below_drew1) | exact HB.out)) hb); clear HB; have HB := n0_; clear n0_; (try clear hb); (try clear hb2); (try clear hk); (try clear hi)))
      go_meet
      case rel => exact ⟨_, (false), (by first | rfl | (simp; done) | (simp [*]; done)), H', ⟨by first | omega | exact Nat.le_refl _⟩, ⟨by repeat (first | (with_reducible first | exact HB.out | apply below_alloc | apply pw_below_drewN | apply below_drew1) | exact HB.out)⟩⟩
  case rest =>
    clear HC1
    try clear c1
    try clear p2
    try clear c3
    try clear c5
    try clear c7
    try clear c8
    try clear c9
    try clear c11
    obtain ⟨kq, x1_0, rfl, HA, HJ0, HB⟩ := hcut
    cases kq with
    | zero => exact absurd HA.out (by simp [abugidalaw05_sanity.j0])
    | succ kj0 =>
      have H := HA.out
      clear HA
      simp only [abugidalaw05_sanity.j0] at H
      have HC34 := Aside0.mk H
      clear H
      go_upto_region 2 with (fail)
      go_cut [2] (fun v2 wc => ∃ (kq : Nat) (x2_33 : Bool), v2 = .bool x2_33 ∧ Aside0 (abugidalaw05_sanity.j1 kq x1_0 x2_33 = some r) ∧ Aside0 (kq ≤ kj0) ∧ Aside0 (Below w.heap.size w wc))
      case first =>
        have H := HC34.out
        clear HC34
        replace H := Option.bind_eq_some_iff.mp H
        obtain ⟨t135, A350, H⟩ := H
        replace H : (if t135 = true then ((abugidalaw05_is.f kj0 128 8 2 2 false).bind fun t136 => (if t136 = true then ((abugidalaw05_is.f kj0 184 10 3 1 true).bind fun t137 => (if t137 = true then ((abugidalaw05_is.f kj0 192 12 3 1 true).bind fun t138 => (if t138 = true then ((abugidalaw05_is.f kj0 240 13 0 0 true).bind fun t139 => (if t139 = true then ((abugidalaw05_is.f kj0 256 0 0 0 false).bind fun t140 => (abugidalaw05_sanity.j1 kj0 x1_0 t140)) else (abugidalaw05_sanity.j1 kj0 x1_0 false))) else (abugidalaw05_sanity.j1 kj0 x1_0 false))) else (abugidalaw05_sanity.j1 kj0 x1_0 false))) else (abugidalaw05_sanity.j1 kj0 x1_0 false))) else (abugidalaw05_sanity.j1 kj0 x1_0 false)) = some r := H
        have A35 := Aside0.mk A350
        clear A350
        by_cases c36 : t135 = true
        · subst c36
          have H1 : ((abugidalaw05_is.f kj0 128 8 2 2 false).bind fun t136 => (if t136 = true then ((abugidalaw05_is.f kj0 184 10 3 1 true).bind fun t137 => (if t137 = true then ((abugidalaw05_is.f kj0 192 12 3 1 true).bind fun t138 => (if t138 = true then ((abugidalaw05_is.f kj0 240 13 0 0 true).bind fun t139 => (if t139 = true then ((abugidalaw05_is.f kj0 256 0 0 0 false).bind fun t140 => (abugidalaw05_sanity.j1 kj0 x1_0 t140)) else (abugidalaw05_sanity.j1 kj0 x1_0 false))) else (abugidalaw05_sanity.j1 kj0 x1_0 false))) else (abugidalaw05_sanity.j1 kj0 x1_0 false))) else (abugidalaw05_sanity.j1 kj0 x1_0 false))) = some r := by rw [if_pos rfl] at H; exact H
          clear H
          have H := H1
          clear H1
          replace H := Option.bind_eq_some_iff.mp H
          obtain ⟨t136, A370, H⟩ := H
          replace H : (if t136 = true then ((abugidalaw05_is.f kj0 184 10 3 1 true).bind fun t137 => (if t137 = true then ((abugidalaw05_is.f kj0 192 12 3 1 true).bind fun t138 => (if t138 = true then ((abugidalaw05_is.f kj0 240 13 0 0 true).bind fun t139 => (if t139 = true then ((abugidalaw05_is.f kj0 256 0 0 0 false).bind fun t140 => (abugidalaw05_sanity.j1 kj0 x1_0 t140)) else (abugidalaw05_sanity.j1 kj0 x1_0 false))) else (abugidalaw05_sanity.j1 kj0 x1_0 false))) else (abugidalaw05_sanity.j1 kj0 x1_0 false))) else (abugidalaw05_sanity.j1 kj0 x1_0 false)) = some r := H
          have A37 := Aside0.mk A370
          clear A370
          by_cases c38 : t136 = true
          · subst c38
            have H1 : ((abugidalaw05_is.f kj0 184 10 3 1 true).bind fun t137 => (if t137 = true then ((abugidalaw05_is.f kj0 192 12 3 1 true).bind fun t138 => (if t138 = true then ((abugidalaw05_is.f kj0 240 13 0 0 true).bind fun t139 => (if t139 = true then ((abugidalaw05_is.f kj0 256 0 0 0 false).bind fun t140 => (abugidalaw05_sanity.j1 kj0 x1_0 t140)) else (abugidalaw05_sanity.j1 kj0 x1_0 false))) else (abugidalaw05_sanity.j1 kj0 x1_0 false))) else (abugidalaw05_sanity.j1 kj0 x1_0 false))) = some r := by rw [if_pos rfl] at H; exact H
            clear H
            have H := H1
            clear H1
            replace H := Option.bind_eq_some_iff.mp H
            obtain ⟨t137, A390, H⟩ := H
            replace H : (if t137 = true then ((abugidalaw05_is.f kj0 192 12 3 1 true).bind fun t138 => (if t138 = true then ((abugidalaw05_is.f kj0 240 13 0 0 true).bind fun t139 => (if t139 = true then ((abugidalaw05_is.f kj0 256 0 0 0 false).bind fun t140 => (abugidalaw05_sanity.j1 kj0 x1_0 t140)) else (abugidalaw05_sanity.j1 kj0 x1_0 false))) else (abugidalaw05_sanity.j1 kj0 x1_0 false))) else (abugidalaw05_sanity.j1 kj0 x1_0 false)) = some r := H
            have A39 := Aside0.mk A390
            clear A390
            by_cases c40 : t137 = true
            · subst c40
              have H1 : ((abugidalaw05_is.f kj0 192 12 3 1 true).bind fun t138 => (if t138 = true then ((abugidalaw05_is.f kj0 240 13 0 0 true).bind fun t139 => (if t139 = true then ((abugidalaw05_is.f kj0 256 0 0 0 false).bind fun t140 => (abugidalaw05_sanity.j1 kj0 x1_0 t140)) else (abugidalaw05_sanity.j1 kj0 x1_0 false))) else (abugidalaw05_sanity.j1 kj0 x1_0 false))) = some r := by rw [if_pos rfl] at H; exact H
              clear H
              have H := H1
              clear H1
              replace H := Option.bind_eq_some_iff.mp H
              obtain ⟨t138, A410, H⟩ := H
              replace H : (if t138 = true then ((abugidalaw05_is.f kj0 240 13 0 0 true).bind fun t139 => (if t139 = true then ((abugidalaw05_is.f kj0 256 0 0 0 false).bind fun t140 => (abugidalaw05_sanity.j1 kj0 x1_0 t140)) else (abugidalaw05_sanity.j1 kj0 x1_0 false))) else (abugidalaw05_sanity.j1 kj0 x1_0 false)) = some r := H
              have A41 := Aside0.mk A410
              clear A410
              by_cases c42 : t138 = true
              · subst c42
                have H1 : ((abugidalaw05_is.f kj0 240 13 0 0 true).bind fun t139 => (if t139 = true then ((abugidalaw05_is.f kj0 256 0 0 0 false).bind fun t140 => (abugidalaw05_sanity.j1 kj0 x1_0 t140)) else (abugidalaw05_sanity.j1 kj0 x1_0 false))) = some r := by rw [if_pos rfl] at H; exact H
                clear H
                have H := H1
                clear H1
                replace H := Option.bind_eq_some_iff.mp H
                obtain ⟨t139, A430, H⟩ := H
                replace H : (if t139 = true then ((abugidalaw05_is.f kj0 256 0 0 0 false).bind fun t140 => (abugidalaw05_sanity.j1 kj0 x1_0 t140)) else (abugidalaw05_sanity.j1 kj0 x1_0 false)) = some r := H
                have A43 := Aside0.mk A430
                clear A430
                by_cases c44 : t139 = true
                · subst c44
                  have H1 : ((abugidalaw05_is.f kj0 256 0 0 0 false).bind fun t140 => (abugidalaw05_sanity.j1 kj0 x1_0 t140)) = some r := by rw [if_pos rfl] at H; exact H
                  clear H
                  have H := H1
                  clear H1
                  replace H := Option.bind_eq_some_iff.mp H
                  obtain ⟨t140, A450, H⟩ := H
                  replace H : (abugidalaw05_sanity.j1 kj0 x1_0 t140) = some r := H
                  have A45 := Aside0.mk A450
                  clear A450
                  have H' := Aside0.mk H
                  clear H
                  go_wp2_with (first | ((with_reducible refine gate_callee (f := 11) rfl ?_); refine goesL_ (some 25) rfl rfl Try.func11 (by kernel_rfl) rfl #[.int .i64 104, .int .i64 7, .int .i64 2, .int .i64 2, .bool false] rfl (by (try simp only [List.map_toArray, List.map_cons, List.map_nil]); first | done | rfl | (simp only [List.length_drop, List.length_take]; rfl)) ?_; (with_reducible refine (abugidalaw05_is.calls kj0 104 7 2 2 false true _ A35.out).mono ?_); rintro e w46 ⟨rfl, hb⟩; refine ⟨_, rfl, ?_⟩; have n0_ := Aside0.mk (below_step (by repeat (first | (with_reducible first | exact HB.out | apply below_alloc | apply pw_below_drewN | apply below_drew1) | exact HB.out)) hb); clear HB; have HB := n0_; clear n0_; (try clear hb); (try clear hb2); (try clear hk); (try clear hi)) | (go_at_call 11; (with_reducible refine (abugidalaw05_is.calls kj0 128 8 2 2 false true _ A37.out).mono ?_); rintro e w47 ⟨rfl, hb⟩; have n0_ := Aside0.mk (below_step (by repeat (first | (with_reducible first | exact HB.out | apply below_alloc | apply pw_below_drewN | apply below_drew1) | exact HB.out)) hb); clear HB; have HB := n0_; clear n0_; (try clear hb); (try clear hb2); (try clear hk); (try clear hi)) | (go_at_call 11; (with_reducible refine (abugidalaw05_is.calls kj0 184 10 3 1 true true _ A39.out).mono ?_); rintro e w48 ⟨rfl, hb⟩; have n0_ := Aside0.mk (below_step (by repeat (first | (with_reducible first | exact HB.out | apply below_alloc | apply pw_below_drewN | apply below_drew1) | exact HB.out)) hb); clear HB; have HB := n0_; clear n0_; (try clear hb); (try clear hb2); (try clear hk); (try clear hi)) | (go_at_call 11; (with_reducible refine (abugidalaw05_is.calls kj0 192 12 3 1 true true _ A41.out).mono ?_); rintro e w49 ⟨rfl, hb⟩; have n0_ := Aside0.mk (below_step (by repeat (first | (with_reducible first | exact HB.out | apply below_alloc | apply pw_below_drewN | apply below_drew1) | exact HB.out)) hb); clear HB; have HB := n0_; clear n0_; (try clear hb); (try clear hb2); (try clear hk); (try clear hi)) | (go_at_call 11; (with_reducible refine (abugidalaw05_is.calls kj0 240 13 0 0 true true _ A43.out).mono ?_); rintro e w50 ⟨rfl, hb⟩; have n0_ := Aside0.mk (below_step (by repeat (first | (with_reducible first | exact HB.out | apply below_alloc | apply pw_below_drewN | apply below_drew1) | exact HB.out)) hb); clear HB; have HB := n0_; clear n0_; (try clear hb); (try clear hb2); (try clear hk); (try clear hi)) | (go_at_call 11; (with_reducible refine (abugidalaw05_is.calls kj0 256 0 0 0 false t140 _ A45.out).mono ?_); rintro e w51 ⟨rfl, hb⟩; have n0_ := Aside0.mk (below_step (by repeat (first | (with_reducible first | exact HB.out | apply below_alloc | apply pw_below_drewN | apply below_drew1) | exact HB.out)) hb); clear HB; have HB := n0_; clear n0_; (try clear hb); (try clear hb2); (try clear hk); (try clear hi)))
                  go_meet
                  case rel => exact ⟨_, (t140), (by first | rfl | (simp; done) | (simp [*]; done)), H', ⟨by have := HJ0.out; first | omega | exact Nat.le_refl _⟩, ⟨by repeat (first | (with_reducible first | exact HB.out | apply below_alloc | apply pw_below_drewN | apply below_drew1) | exact HB.out)⟩⟩
                · replace c44 := Bool.eq_false_iff.mpr c44
                  subst c44
                  have H1 : (abugidalaw05_sanity.j1 kj0 x1_0 false) = some r := by rw [if_neg (show ¬ (false = true) by decide)] at H; exact H
                  clear H
                  have H := H1
                  clear H1
                  have H' := Aside0.mk H
                  clear H
                  go_wp2_with (first | ((with_reducible refine gate_callee (f := 11) rfl ?_); refine goesL_ (some 25) rfl rfl Try.func11 (by kernel_rfl) rfl #[.int .i64 104, .int .i64 7, .int .i64 2, .int .i64 2, .bool false] rfl (by (try simp only [List.map_toArray, List.map_cons, List.map_nil]); first | done | rfl | (simp only [List.length_drop, List.length_take]; rfl)) ?_; (with_reducible refine (abugidalaw05_is.calls kj0 104 7 2 2 false true _ A35.out).mono ?_); rintro e w52 ⟨rfl, hb⟩; refine ⟨_, rfl, ?_⟩; have n0_ := Aside0.mk (below_step (by repeat (first | (with_reducible first | exact HB.out | apply below_alloc | apply pw_below_drewN | apply below_drew1) | exact HB.out)) hb); clear HB; have HB := n0_; clear n0_; (try clear hb); (try clear hb2); (try clear hk); (try clear hi)) | (go_at_call 11; (with_reducible refine (abugidalaw05_is.calls kj0 128 8 2 2 false true _ A37.out).mono ?_); rintro e w53 ⟨rfl, hb⟩; have n0_ := Aside0.mk (below_step (by repeat (first | (with_reducible first | exact HB.out | apply below_alloc | apply pw_below_drewN | apply below_drew1) | exact HB.out)) hb); clear HB; have HB := n0_; clear n0_; (try clear hb); (try clear hb2); (try clear hk); (try clear hi)) | (go_at_call 11; (with_reducible refine (abugidalaw05_is.calls kj0 184 10 3 1 true true _ A39.out).mono ?_); rintro e w54 ⟨rfl, hb⟩; have n0_ := Aside0.mk (below_step (by repeat (first | (with_reducible first | exact HB.out | apply below_alloc | apply pw_below_drewN | apply below_drew1) | exact HB.out)) hb); clear HB; have HB := n0_; clear n0_; (try clear hb); (try clear hb2); (try clear hk); (try clear hi)) | (go_at_call 11; (with_reducible refine (abugidalaw05_is.calls kj0 192 12 3 1 true true _ A41.out).mono ?_); rintro e w55 ⟨rfl, hb⟩; have n0_ := Aside0.mk (below_step (by repeat (first | (with_reducible first | exact HB.out | apply below_alloc | apply pw_below_drewN | apply below_drew1) | exact HB.out)) hb); clear HB; have HB := n0_; clear n0_; (try clear hb); (try clear hb2); (try clear hk); (try clear hi)) | (go_at_call 11; (with_reducible refine (abugidalaw05_is.calls kj0 240 13 0 0 true false _ A43.out).mono ?_); rintro e w56 ⟨rfl, hb⟩; have n0_ := Aside0.mk (below_step (by repeat (first | (with_reducible first | exact HB.out | apply below_alloc | apply pw_below_drewN | apply below_drew1) | exact HB.out)) hb); clear HB; have HB := n0_; clear n0_; (try clear hb); (try clear hb2); (try clear hk); (try clear hi)))
                  go_meet
                  case rel => exact ⟨_, (false), (by first | rfl | (simp; done) | (simp [*]; done)), H', ⟨by have := HJ0.out; first | omega | exact Nat.le_refl _⟩, ⟨by repeat (first | (with_reducible first | exact HB.out | apply below_alloc | apply pw_below_drewN | apply below_drew1) | exact HB.out)⟩⟩
              · replace c42 := Bool.eq_false_iff.mpr c42
                subst c42
                have H1 : (abugidalaw05_sanity.j1 kj0 x1_0 false) = some r := by rw [if_neg (show ¬ (false = true) by decide)] at H; exact H
                clear H
                have H := H1
                clear H1
                have H' := Aside0.mk H
                clear H
                go_wp2_with (first | ((with_reducible refine gate_callee (f := 11) rfl ?_); refine goesL_ (some 25) rfl rfl Try.func11 (by kernel_rfl) rfl #[.int .i64 104, .int .i64 7, .int .i64 2, .int .i64 2, .bool false] rfl (by (try simp only [List.map_toArray, List.map_cons, List.map_nil]); first | done | rfl | (simp only [List.length_drop, List.length_take]; rfl)) ?_; (with_reducible refine (abugidalaw05_is.calls kj0 104 7 2 2 false true _ A35.out).mono ?_); rintro e w57 ⟨rfl, hb⟩; refine ⟨_, rfl, ?_⟩; have n0_ := Aside0.mk (below_step (by repeat (first | (with_reducible first | exact HB.out | apply below_alloc | apply pw_below_drewN | apply below_drew1) | exact HB.out)) hb); clear HB; have HB := n0_; clear n0_; (try clear hb); (try clear hb2); (try clear hk); (try clear hi)) | (go_at_call 11; (with_reducible refine (abugidalaw05_is.calls kj0 128 8 2 2 false true _ A37.out).mono ?_); rintro e w58 ⟨rfl, hb⟩; have n0_ := Aside0.mk (below_step (by repeat (first | (with_reducible first | exact HB.out | apply below_alloc | apply pw_below_drewN | apply below_drew1) | exact HB.out)) hb); clear HB; have HB := n0_; clear n0_; (try clear hb); (try clear hb2); (try clear hk); (try clear hi)) | (go_at_call 11; (with_reducible refine (abugidalaw05_is.calls kj0 184 10 3 1 true true _ A39.out).mono ?_); rintro e w59 ⟨rfl, hb⟩; have n0_ := Aside0.mk (below_step (by repeat (first | (with_reducible first | exact HB.out | apply below_alloc | apply pw_below_drewN | apply below_drew1) | exact HB.out)) hb); clear HB; have HB := n0_; clear n0_; (try clear hb); (try clear hb2); (try clear hk); (try clear hi)) | (go_at_call 11; (with_reducible refine (abugidalaw05_is.calls kj0 192 12 3 1 true false _ A41.out).mono ?_); rintro e w60 ⟨rfl, hb⟩; have n0_ := Aside0.mk (below_step (by repeat (first | (with_reducible first | exact HB.out | apply below_alloc | apply pw_below_drewN | apply below_drew1) | exact HB.out)) hb); clear HB; have HB := n0_; clear n0_; (try clear hb); (try clear hb2); (try clear hk); (try clear hi)))
                go_meet
                case rel => exact ⟨_, (false), (by first | rfl | (simp; done) | (simp [*]; done)), H', ⟨by have := HJ0.out; first | omega | exact Nat.le_refl _⟩, ⟨by repeat (first | (with_reducible first | exact HB.out | apply below_alloc | apply pw_below_drewN | apply below_drew1) | exact HB.out)⟩⟩
            · replace c40 := Bool.eq_false_iff.mpr c40
              subst c40
              have H1 : (abugidalaw05_sanity.j1 kj0 x1_0 false) = some r := by rw [if_neg (show ¬ (false = true) by decide)] at H; exact H
              clear H
              have H := H1
              clear H1
              have H' := Aside0.mk H
              clear H
              go_wp2_with (first | ((with_reducible refine gate_callee (f := 11) rfl ?_); refine goesL_ (some 25) rfl rfl Try.func11 (by kernel_rfl) rfl #[.int .i64 104, .int .i64 7, .int .i64 2, .int .i64 2, .bool false] rfl (by (try simp only [List.map_toArray, List.map_cons, List.map_nil]); first | done | rfl | (simp only [List.length_drop, List.length_take]; rfl)) ?_; (with_reducible refine (abugidalaw05_is.calls kj0 104 7 2 2 false true _ A35.out).mono ?_); rintro e w61 ⟨rfl, hb⟩; refine ⟨_, rfl, ?_⟩; have n0_ := Aside0.mk (below_step (by repeat (first | (with_reducible first | exact HB.out | apply below_alloc | apply pw_below_drewN | apply below_drew1) | exact HB.out)) hb); clear HB; have HB := n0_; clear n0_; (try clear hb); (try clear hb2); (try clear hk); (try clear hi)) | (go_at_call 11; (with_reducible refine (abugidalaw05_is.calls kj0 128 8 2 2 false true _ A37.out).mono ?_); rintro e w62 ⟨rfl, hb⟩; have n0_ := Aside0.mk (below_step (by repeat (first | (with_reducible first | exact HB.out | apply below_alloc | apply pw_below_drewN | apply below_drew1) | exact HB.out)) hb); clear HB; have HB := n0_; clear n0_; (try clear hb); (try clear hb2); (try clear hk); (try clear hi)) | (go_at_call 11; (with_reducible refine (abugidalaw05_is.calls kj0 184 10 3 1 true false _ A39.out).mono ?_); rintro e w63 ⟨rfl, hb⟩; have n0_ := Aside0.mk (below_step (by repeat (first | (with_reducible first | exact HB.out | apply below_alloc | apply pw_below_drewN | apply below_drew1) | exact HB.out)) hb); clear HB; have HB := n0_; clear n0_; (try clear hb); (try clear hb2); (try clear hk); (try clear hi)))
              go_meet
              case rel => exact ⟨_, (false), (by first | rfl | (simp; done) | (simp [*]; done)), H', ⟨by have := HJ0.out; first | omega | exact Nat.le_refl _⟩, ⟨by repeat (first | (with_reducible first | exact HB.out | apply below_alloc | apply pw_below_drewN | apply below_drew1) | exact HB.out)⟩⟩
          · replace c38 := Bool.eq_false_iff.mpr c38
            subst c38
            have H1 : (abugidalaw05_sanity.j1 kj0 x1_0 false) = some r := by rw [if_neg (show ¬ (false = true) by decide)] at H; exact H
            clear H
            have H := H1
            clear H1
            have H' := Aside0.mk H
            clear H
            go_wp2_with (first | ((with_reducible refine gate_callee (f := 11) rfl ?_); refine goesL_ (some 25) rfl rfl Try.func11 (by kernel_rfl) rfl #[.int .i64 104, .int .i64 7, .int .i64 2, .int .i64 2, .bool false] rfl (by (try simp only [List.map_toArray, List.map_cons, List.map_nil]); first | done | rfl | (simp only [List.length_drop, List.length_take]; rfl)) ?_; (with_reducible refine (abugidalaw05_is.calls kj0 104 7 2 2 false true _ A35.out).mono ?_); rintro e w64 ⟨rfl, hb⟩; refine ⟨_, rfl, ?_⟩; have n0_ := Aside0.mk (below_step (by repeat (first | (with_reducible first | exact HB.out | apply below_alloc | apply pw_below_drewN | apply below_drew1) | exact HB.out)) hb); clear HB; have HB := n0_; clear n0_; (try clear hb); (try clear hb2); (try clear hk); (try clear hi)) | (go_at_call 11; (with_reducible refine (abugidalaw05_is.calls kj0 128 8 2 2 false false _ A37.out).mono ?_); rintro e w65 ⟨rfl, hb⟩; have n0_ := Aside0.mk (below_step (by repeat (first | (with_reducible first | exact HB.out | apply below_alloc | apply pw_below_drewN | apply below_drew1) | exact HB.out)) hb); clear HB; have HB := n0_; clear n0_; (try clear hb); (try clear hb2); (try clear hk); (try clear hi)))
            go_meet
            case rel => exact ⟨_, (false), (by first | rfl | (simp; done) | (simp [*]; done)), H', ⟨by have := HJ0.out; first | omega | exact Nat.le_refl _⟩, ⟨by repeat (first | (with_reducible first | exact HB.out | apply below_alloc | apply pw_below_drewN | apply below_drew1) | exact HB.out)⟩⟩
        · replace c36 := Bool.eq_false_iff.mpr c36
          subst c36
          have H1 : (abugidalaw05_sanity.j1 kj0 x1_0 false) = some r := by rw [if_neg (show ¬ (false = true) by decide)] at H; exact H
          clear H
          have H := H1
          clear H1
          have H' := Aside0.mk H
          clear H
          go_wp2_with (first | ((with_reducible refine gate_callee (f := 11) rfl ?_); refine goesL_ (some 25) rfl rfl Try.func11 (by kernel_rfl) rfl #[.int .i64 104, .int .i64 7, .int .i64 2, .int .i64 2, .bool false] rfl (by (try simp only [List.map_toArray, List.map_cons, List.map_nil]); first | done | rfl | (simp only [List.length_drop, List.length_take]; rfl)) ?_; (with_reducible refine (abugidalaw05_is.calls kj0 104 7 2 2 false false _ A35.out).mono ?_); rintro e w66 ⟨rfl, hb⟩; refine ⟨_, rfl, ?_⟩; have n0_ := Aside0.mk (below_step (by repeat (first | (with_reducible first | exact HB.out | apply below_alloc | apply pw_below_drewN | apply below_drew1) | exact HB.out)) hb); clear HB; have HB := n0_; clear n0_; (try clear hb); (try clear hb2); (try clear hk); (try clear hi)))
          go_meet
          case rel => exact ⟨_, (false), (by first | rfl | (simp; done) | (simp [*]; done)), H', ⟨by have := HJ0.out; first | omega | exact Nat.le_refl _⟩, ⟨by repeat (first | (with_reducible first | exact HB.out | apply below_alloc | apply pw_below_drewN | apply below_drew1) | exact HB.out)⟩⟩
      case rest =>
        clear HC34
        try clear c1
        try clear p2
        try clear c3
        try clear c4
        try clear c5
        try clear c7
        try clear c8
        try clear c9
        try clear c11
        try clear c36
        try clear c38
        try clear c40
        try clear c42
        try clear c44
        try clear p2
        obtain ⟨kq, x2_33, rfl, HA, HJ33, HB⟩ := hcut
        cases kq with
        | zero => exact absurd HA.out (by simp [abugidalaw05_sanity.j1])
        | succ kj33 =>
          have H := HA.out
          clear HA
          simp only [abugidalaw05_sanity.j1] at H
          replace H := Option.bind_eq_some_iff.mp H
          obtain ⟨⟨t141, t142⟩, A670, H⟩ := H
          replace H : ((chars_Joins.f kj33 128).bind fun bt143 => ((chars_Joins.f kj33 64).bind fun bt145 => (if x1_0 = true then (if x2_33 = true then (if t141 = true then (if t142 = true then (if bt143.1 = true then (if bt143.2 = true then (some false) else (if bt145.1 = true then (some false) else (if bt145.2 = true then (some false) else ((chars_Codes.f kj33 1).bind fun t147 => (if (t147.length : Int) = 40 then ((chars_Codes.f kj33 2).bind fun t150 => (if (t150.length : Int) = 48 then ((chars_Codes.f kj33 3).bind fun t153 => (some ((t153.length : Int) == 56))) else (some false))) else (some false)))))) else (some false)) else (some false)) else (some false)) else (some false)) else (some false)))) = some r := H
          have A67 := Aside0.mk A670
          clear A670
          replace H := Option.bind_eq_some_iff.mp H
          obtain ⟨⟨t143, t144⟩, A680, H⟩ := H
          replace H : ((chars_Joins.f kj33 64).bind fun bt145 => (if x1_0 = true then (if x2_33 = true then (if t141 = true then (if t142 = true then (if t143 = true then (if t144 = true then (some false) else (if bt145.1 = true then (some false) else (if bt145.2 = true then (some false) else ((chars_Codes.f kj33 1).bind fun t147 => (if (t147.length : Int) = 40 then ((chars_Codes.f kj33 2).bind fun t150 => (if (t150.length : Int) = 48 then ((chars_Codes.f kj33 3).bind fun t153 => (some ((t153.length : Int) == 56))) else (some false))) else (some false)))))) else (some false)) else (some false)) else (some false)) else (some false)) else (some false))) = some r := H
          have A68 := Aside0.mk A680
          clear A680
          replace H := Option.bind_eq_some_iff.mp H
          obtain ⟨⟨t145, t146⟩, A690, H⟩ := H
          replace H : (if x1_0 = true then (if x2_33 = true then (if t141 = true then (if t142 = true then (if t143 = true then (if t144 = true then (some false) else (if t145 = true then (some false) else (if t146 = true then (some false) else ((chars_Codes.f kj33 1).bind fun t147 => (if (t147.length : Int) = 40 then ((chars_Codes.f kj33 2).bind fun t150 => (if (t150.length : Int) = 48 then ((chars_Codes.f kj33 3).bind fun t153 => (some ((t153.length : Int) == 56))) else (some false))) else (some false)))))) else (some false)) else (some false)) else (some false)) else (some false)) else (some false)) = some r := H
          have A69 := Aside0.mk A690
          clear A690
          by_cases c70 : x1_0 = true
          · subst c70
            have H1 : (if x2_33 = true then (if t141 = true then (if t142 = true then (if t143 = true then (if t144 = true then (some false) else (if t145 = true then (some false) else (if t146 = true then (some false) else ((chars_Codes.f kj33 1).bind fun t147 => (if (t147.length : Int) = 40 then ((chars_Codes.f kj33 2).bind fun t150 => (if (t150.length : Int) = 48 then ((chars_Codes.f kj33 3).bind fun t153 => (some ((t153.length : Int) == 56))) else (some false))) else (some false)))))) else (some false)) else (some false)) else (some false)) else (some false)) = some r := by rw [if_pos rfl] at H; exact H
            clear H
            have H := H1
            clear H1
            by_cases c71 : x2_33 = true
            · subst c71
              have H1 : (if t141 = true then (if t142 = true then (if t143 = true then (if t144 = true then (some false) else (if t145 = true then (some false) else (if t146 = true then (some false) else ((chars_Codes.f kj33 1).bind fun t147 => (if (t147.length : Int) = 40 then ((chars_Codes.f kj33 2).bind fun t150 => (if (t150.length : Int) = 48 then ((chars_Codes.f kj33 3).bind fun t153 => (some ((t153.length : Int) == 56))) else (some false))) else (some false)))))) else (some false)) else (some false)) else (some false)) = some r := by rw [if_pos rfl] at H; exact H
              clear H
              have H := H1
              clear H1
              by_cases c72 : t141 = true
              · subst c72
                have H1 : (if t142 = true then (if t143 = true then (if t144 = true then (some false) else (if t145 = true then (some false) else (if t146 = true then (some false) else ((chars_Codes.f kj33 1).bind fun t147 => (if (t147.length : Int) = 40 then ((chars_Codes.f kj33 2).bind fun t150 => (if (t150.length : Int) = 48 then ((chars_Codes.f kj33 3).bind fun t153 => (some ((t153.length : Int) == 56))) else (some false))) else (some false)))))) else (some false)) else (some false)) = some r := by rw [if_pos rfl] at H; exact H
                clear H
                have H := H1
                clear H1
                by_cases c73 : t142 = true
                · subst c73
                  have H1 : (if t143 = true then (if t144 = true then (some false) else (if t145 = true then (some false) else (if t146 = true then (some false) else ((chars_Codes.f kj33 1).bind fun t147 => (if (t147.length : Int) = 40 then ((chars_Codes.f kj33 2).bind fun t150 => (if (t150.length : Int) = 48 then ((chars_Codes.f kj33 3).bind fun t153 => (some ((t153.length : Int) == 56))) else (some false))) else (some false)))))) else (some false)) = some r := by rw [if_pos rfl] at H; exact H
                  clear H
                  have H := H1
                  clear H1
                  by_cases c74 : t143 = true
                  · subst c74
                    have H1 : (if t144 = true then (some false) else (if t145 = true then (some false) else (if t146 = true then (some false) else ((chars_Codes.f kj33 1).bind fun t147 => (if (t147.length : Int) = 40 then ((chars_Codes.f kj33 2).bind fun t150 => (if (t150.length : Int) = 48 then ((chars_Codes.f kj33 3).bind fun t153 => (some ((t153.length : Int) == 56))) else (some false))) else (some false)))))) = some r := by rw [if_pos rfl] at H; exact H
                    clear H
                    have H := H1
                    clear H1
                    by_cases c75 : t144 = true
                    · subst c75
                      have H1 : (some false) = some r := by rw [if_pos rfl] at H; exact H
                      clear H
                      have H := H1
                      clear H1
                      obtain rfl := Option.some.inj H
                      go_wp2_with (first | ((with_reducible refine gate_callee (f := 9) rfl ?_); refine goesL_ (some 42) rfl rfl Try.func9 (by kernel_rfl) rfl #[.int .i64 104] rfl (by (try simp only [List.map_toArray, List.map_cons, List.map_nil]); first | done | rfl | (simp only [List.length_drop, List.length_take]; rfl)) ?_; (with_reducible refine (chars_Joins.calls kj33 104 true true _ A67.out).mono ?_); rintro e w76 ⟨rfl, hb⟩; refine ⟨_, rfl, ?_⟩; have n0_ := Aside0.mk (below_step (by repeat (first | (with_reducible first | exact HB.out | apply below_alloc | apply pw_below_drewN | apply below_drew1) | exact HB.out)) hb); clear HB; have HB := n0_; clear n0_; (try clear hb); (try clear hb2); (try clear hk); (try clear hi)) | ((with_reducible refine gate_callee (f := 9) rfl ?_); refine goesL_ (some 46) rfl rfl Try.func9 (by kernel_rfl) rfl #[.int .i64 128] rfl (by (try simp only [List.map_toArray, List.map_cons, List.map_nil]); first | done | rfl | (simp only [List.length_drop, List.length_take]; rfl)) ?_; (with_reducible refine (chars_Joins.calls kj33 128 true true _ A68.out).mono ?_); rintro e w77 ⟨rfl, hb⟩; refine ⟨_, rfl, ?_⟩; have n0_ := Aside0.mk (below_step (by repeat (first | (with_reducible first | exact HB.out | apply below_alloc | apply pw_below_drewN | apply below_drew1) | exact HB.out)) hb); clear HB; have HB := n0_; clear n0_; (try clear hb); (try clear hb2); (try clear hk); (try clear hi)) | ((with_reducible refine gate_callee (f := 9) rfl ?_); refine goesL_ (some 50) rfl rfl Try.func9 (by kernel_rfl) rfl #[.int .i64 64] rfl (by (try simp only [List.map_toArray, List.map_cons, List.map_nil]); first | done | rfl | (simp only [List.length_drop, List.length_take]; rfl)) ?_; (with_reducible refine (chars_Joins.calls kj33 64 t145 t146 _ A69.out).mono ?_); rintro e w78 ⟨rfl, hb⟩; refine ⟨_, rfl, ?_⟩; have n0_ := Aside0.mk (below_step (by repeat (first | (with_reducible first | exact HB.out | apply below_alloc | apply pw_below_drewN | apply below_drew1) | exact HB.out)) hb); clear HB; have HB := n0_; clear n0_; (try clear hb); (try clear hb2); (try clear hk); (try clear hi)))
                      go_ret
                      exact ⟨by first | rfl | (simp [errW_none, errW_some] <;> rfl) | (simp [*, errW_none, errW_some] <;> rfl), by repeat (first | (with_reducible first | exact HB.out | apply below_alloc | apply pw_below_drewN | apply below_drew1) | exact HB.out)⟩
                    · replace c75 := Bool.eq_false_iff.mpr c75
                      subst c75
                      have H1 : (if t145 = true then (some false) else (if t146 = true then (some false) else ((chars_Codes.f kj33 1).bind fun t147 => (if (t147.length : Int) = 40 then ((chars_Codes.f kj33 2).bind fun t150 => (if (t150.length : Int) = 48 then ((chars_Codes.f kj33 3).bind fun t153 => (some ((t153.length : Int) == 56))) else (some false))) else (some false))))) = some r := by rw [if_neg (show ¬ (false = true) by decide)] at H; exact H
                      clear H
                      have H := H1
                      clear H1
                      by_cases c79 : t145 = true
                      · subst c79
                        have H1 : (some false) = some r := by rw [if_pos rfl] at H; exact H
                        clear H
                        have H := H1
                        clear H1
                        obtain rfl := Option.some.inj H
                        go_wp2_with (first | ((with_reducible refine gate_callee (f := 9) rfl ?_); refine goesL_ (some 42) rfl rfl Try.func9 (by kernel_rfl) rfl #[.int .i64 104] rfl (by (try simp only [List.map_toArray, List.map_cons, List.map_nil]); first | done | rfl | (simp only [List.length_drop, List.length_take]; rfl)) ?_; (with_reducible refine (chars_Joins.calls kj33 104 true true _ A67.out).mono ?_); rintro e w80 ⟨rfl, hb⟩; refine ⟨_, rfl, ?_⟩; have n0_ := Aside0.mk (below_step (by repeat (first | (with_reducible first | exact HB.out | apply below_alloc | apply pw_below_drewN | apply below_drew1) | exact HB.out)) hb); clear HB; have HB := n0_; clear n0_; (try clear hb); (try clear hb2); (try clear hk); (try clear hi)) | ((with_reducible refine gate_callee (f := 9) rfl ?_); refine goesL_ (some 46) rfl rfl Try.func9 (by kernel_rfl) rfl #[.int .i64 128] rfl (by (try simp only [List.map_toArray, List.map_cons, List.map_nil]); first | done | rfl | (simp only [List.length_drop, List.length_take]; rfl)) ?_; (with_reducible refine (chars_Joins.calls kj33 128 true false _ A68.out).mono ?_); rintro e w81 ⟨rfl, hb⟩; refine ⟨_, rfl, ?_⟩; have n0_ := Aside0.mk (below_step (by repeat (first | (with_reducible first | exact HB.out | apply below_alloc | apply pw_below_drewN | apply below_drew1) | exact HB.out)) hb); clear HB; have HB := n0_; clear n0_; (try clear hb); (try clear hb2); (try clear hk); (try clear hi)) | ((with_reducible refine gate_callee (f := 9) rfl ?_); refine goesL_ (some 50) rfl rfl Try.func9 (by kernel_rfl) rfl #[.int .i64 64] rfl (by (try simp only [List.map_toArray, List.map_cons, List.map_nil]); first | done | rfl | (simp only [List.length_drop, List.length_take]; rfl)) ?_; (with_reducible refine (chars_Joins.calls kj33 64 true t146 _ A69.out).mono ?_); rintro e w82 ⟨rfl, hb⟩; refine ⟨_, rfl, ?_⟩; have n0_ := Aside0.mk (below_step (by repeat (first | (with_reducible first | exact HB.out | apply below_alloc | apply pw_below_drewN | apply below_drew1) | exact HB.out)) hb); clear HB; have HB := n0_; clear n0_; (try clear hb); (try clear hb2); (try clear hk); (try clear hi)))
                        go_ret
                        exact ⟨by first | rfl | (simp [errW_none, errW_some] <;> rfl) | (simp [*, errW_none, errW_some] <;> rfl), by repeat (first | (with_reducible first | exact HB.out | apply below_alloc | apply pw_below_drewN | apply below_drew1) | exact HB.out)⟩
                      · replace c79 := Bool.eq_false_iff.mpr c79
                        subst c79
                        have H1 : (if t146 = true then (some false) else ((chars_Codes.f kj33 1).bind fun t147 => (if (t147.length : Int) = 40 then ((chars_Codes.f kj33 2).bind fun t150 => (if (t150.length : Int) = 48 then ((chars_Codes.f kj33 3).bind fun t153 => (some ((t153.length : Int) == 56))) else (some false))) else (some false)))) = some r := by rw [if_neg (show ¬ (false = true) by decide)] at H; exact H
                        clear H
                        have H := H1
                        clear H1
                        by_cases c83 : t146 = true
                        · subst c83
                          have H1 : (some false) = some r := by rw [if_pos rfl] at H; exact H
                          clear H
                          have H := H1
                          clear H1
                          obtain rfl := Option.some.inj H
                          go_wp2_with (first | ((with_reducible refine gate_callee (f := 9) rfl ?_); refine goesL_ (some 42) rfl rfl Try.func9 (by kernel_rfl) rfl #[.int .i64 104] rfl (by (try simp only [List.map_toArray, List.map_cons, List.map_nil]); first | done | rfl | (simp only [List.length_drop, List.length_take]; rfl)) ?_; (with_reducible refine (chars_Joins.calls kj33 104 true true _ A67.out).mono ?_); rintro e w84 ⟨rfl, hb⟩; refine ⟨_, rfl, ?_⟩; have n0_ := Aside0.mk (below_step (by repeat (first | (with_reducible first | exact HB.out | apply below_alloc | apply pw_below_drewN | apply below_drew1) | exact HB.out)) hb); clear HB; have HB := n0_; clear n0_; (try clear hb); (try clear hb2); (try clear hk); (try clear hi)) | ((with_reducible refine gate_callee (f := 9) rfl ?_); refine goesL_ (some 46) rfl rfl Try.func9 (by kernel_rfl) rfl #[.int .i64 128] rfl (by (try simp only [List.map_toArray, List.map_cons, List.map_nil]); first | done | rfl | (simp only [List.length_drop, List.length_take]; rfl)) ?_; (with_reducible refine (chars_Joins.calls kj33 128 true false _ A68.out).mono ?_); rintro e w85 ⟨rfl, hb⟩; refine ⟨_, rfl, ?_⟩; have n0_ := Aside0.mk (below_step (by repeat (first | (with_reducible first | exact HB.out | apply below_alloc | apply pw_below_drewN | apply below_drew1) | exact HB.out)) hb); clear HB; have HB := n0_; clear n0_; (try clear hb); (try clear hb2); (try clear hk); (try clear hi)) | ((with_reducible refine gate_callee (f := 9) rfl ?_); refine goesL_ (some 50) rfl rfl Try.func9 (by kernel_rfl) rfl #[.int .i64 64] rfl (by (try simp only [List.map_toArray, List.map_cons, List.map_nil]); first | done | rfl | (simp only [List.length_drop, List.length_take]; rfl)) ?_; (with_reducible refine (chars_Joins.calls kj33 64 false true _ A69.out).mono ?_); rintro e w86 ⟨rfl, hb⟩; refine ⟨_, rfl, ?_⟩; have n0_ := Aside0.mk (below_step (by repeat (first | (with_reducible first | exact HB.out | apply below_alloc | apply pw_below_drewN | apply below_drew1) | exact HB.out)) hb); clear HB; have HB := n0_; clear n0_; (try clear hb); (try clear hb2); (try clear hk); (try clear hi)))
                          go_ret
                          exact ⟨by first | rfl | (simp [errW_none, errW_some] <;> rfl) | (simp [*, errW_none, errW_some] <;> rfl), by repeat (first | (with_reducible first | exact HB.out | apply below_alloc | apply pw_below_drewN | apply below_drew1) | exact HB.out)⟩
                        · replace c83 := Bool.eq_false_iff.mpr c83
                          subst c83
                          have H1 : ((chars_Codes.f kj33 1).bind fun t147 => (if (t147.length : Int) = 40 then ((chars_Codes.f kj33 2).bind fun t150 => (if (t150.length : Int) = 48 then ((chars_Codes.f kj33 3).bind fun t153 => (some ((t153.length : Int) == 56))) else (some false))) else (some false))) = some r := by rw [if_neg (show ¬ (false = true) by decide)] at H; exact H
                          clear H
                          have H := H1
                          clear H1
                          replace H := Option.bind_eq_some_iff.mp H
                          obtain ⟨t147, A870, H⟩ := H
                          replace H : (if (t147.length : Int) = 40 then ((chars_Codes.f kj33 2).bind fun t150 => (if (t150.length : Int) = 48 then ((chars_Codes.f kj33 3).bind fun t153 => (some ((t153.length : Int) == 56))) else (some false))) else (some false)) = some r := H
                          have A87 := Aside0.mk A870
                          clear A870
                          by_cases c88 : (t147.length : Int) = 40
                          · rw [if_pos c88] at H
                            have c88b0 : ((t147.length : Int) == 40) = true := beq_iff_eq.mpr c88
                            have c88b1 : ((t147.length : Int) != 40) = false := bne_eq_false_iff_eq.mpr c88
                            clear c88
                            replace H := Option.bind_eq_some_iff.mp H
                            obtain ⟨t150, A890, H⟩ := H
                            replace H : (if (t150.length : Int) = 48 then ((chars_Codes.f kj33 3).bind fun t153 => (some ((t153.length : Int) == 56))) else (some false)) = some r := H
                            have A89 := Aside0.mk A890
                            clear A890
                            by_cases c90 : (t150.length : Int) = 48
                            · rw [if_pos c90] at H
                              have c90b0 : ((t150.length : Int) == 48) = true := beq_iff_eq.mpr c90
                              have c90b1 : ((t150.length : Int) != 48) = false := bne_eq_false_iff_eq.mpr c90
                              clear c90
                              replace H := Option.bind_eq_some_iff.mp H
                              obtain ⟨t153, A910, H⟩ := H
                              replace H : (some ((t153.length : Int) == 56)) = some r := H
                              have A91 := Aside0.mk A910
                              clear A910
                              obtain rfl := Option.some.inj H
                              go_wp2_with (first | ((with_reducible refine gate_callee (f := 9) rfl ?_); refine goesL_ (some 42) rfl rfl Try.func9 (by kernel_rfl) rfl #[.int .i64 104] rfl (by (try simp only [List.map_toArray, List.map_cons, List.map_nil]); first | done | rfl | (simp only [List.length_drop, List.length_take]; rfl)) ?_; (with_reducible refine (chars_Joins.calls kj33 104 true true _ A67.out).mono ?_); rintro e w92 ⟨rfl, hb⟩; refine ⟨_, rfl, ?_⟩; have n0_ := Aside0.mk (below_step (by repeat (first | (with_reducible first | exact HB.out | apply below_alloc | apply pw_below_drewN | apply below_drew1) | exact HB.out)) hb); clear HB; have HB := n0_; clear n0_; (try clear hb); (try clear hb2); (try clear hk); (try clear hi)) | ((with_reducible refine gate_callee (f := 9) rfl ?_); refine goesL_ (some 46) rfl rfl Try.func9 (by kernel_rfl) rfl #[.int .i64 128] rfl (by (try simp only [List.map_toArray, List.map_cons, List.map_nil]); first | done | rfl | (simp only [List.length_drop, List.length_take]; rfl)) ?_; (with_reducible refine (chars_Joins.calls kj33 128 true false _ A68.out).mono ?_); rintro e w93 ⟨rfl, hb⟩; refine ⟨_, rfl, ?_⟩; have n0_ := Aside0.mk (below_step (by repeat (first | (with_reducible first | exact HB.out | apply below_alloc | apply pw_below_drewN | apply below_drew1) | exact HB.out)) hb); clear HB; have HB := n0_; clear n0_; (try clear hb); (try clear hb2); (try clear hk); (try clear hi)) | ((with_reducible refine gate_callee (f := 9) rfl ?_); refine goesL_ (some 50) rfl rfl Try.func9 (by kernel_rfl) rfl #[.int .i64 64] rfl (by (try simp only [List.map_toArray, List.map_cons, List.map_nil]); first | done | rfl | (simp only [List.length_drop, List.length_take]; rfl)) ?_; (with_reducible refine (chars_Joins.calls kj33 64 false false _ A69.out).mono ?_); rintro e w94 ⟨rfl, hb⟩; refine ⟨_, rfl, ?_⟩; have n0_ := Aside0.mk (below_step (by repeat (first | (with_reducible first | exact HB.out | apply below_alloc | apply pw_below_drewN | apply below_drew1) | exact HB.out)) hb); clear HB; have HB := n0_; clear n0_; (try clear hb); (try clear hb2); (try clear hk); (try clear hi)) | (go_at_call 16; (with_reducible refine (chars_Codes.calls kj33 1 t147 _ A87.out).mono ?_); rintro e w95 ⟨v148, rfl, ho0, hb⟩; have n0_ := Aside0.mk (Kd.R_lower ho0 (below_size (by repeat (first | (with_reducible first | exact HB.out | apply below_alloc | apply pw_below_drewN | apply below_drew1) | exact HB.out)))); have n1_ := Aside0.mk (below_step (by repeat (first | (with_reducible first | exact HB.out | apply below_alloc | apply pw_below_drewN | apply below_drew1) | exact HB.out)) hb); clear HB; have HO149 := n0_; have HB := n1_; clear n0_ n1_; (try clear hb); (try clear hb2); (try clear hk); (try clear hi); (try clear ho0); obtain ⟨Ao96, co96, eo96⟩ := Kd.R_slice HO149.out; subst eo96) | (go_at_call 16; (with_reducible refine (chars_Codes.calls kj33 2 t150 _ A89.out).mono ?_); rintro e w97 ⟨v151, rfl, ho0, hb⟩; have n0_ := Aside0.mk (Kd.R_elder' (by (with_reducible repeat (first | apply Kd.R_alloc | apply Kd.R_drewN | apply Kd.R_drew)); exact HO149.out) (Kd.R_base ho0) hb); have n1_ := Aside0.mk (Kd.R_lower (Kd.R_new' ho0 (Kd.R_lt (by (with_reducible repeat (first | apply Kd.R_alloc | apply Kd.R_drewN | apply Kd.R_drew)); exact HO149.out))) (below_size (by repeat (first | (with_reducible first | exact HB.out | apply below_alloc | apply pw_below_drewN | apply below_drew1) | exact HB.out)))); have n2_ := Aside0.mk (below_step (by repeat (first | (with_reducible first | exact HB.out | apply below_alloc | apply pw_below_drewN | apply below_drew1) | exact HB.out)) hb); clear HO149; clear HB; have HO149 := n0_; have HO152 := n1_; have HB := n2_; clear n0_ n1_ n2_; (try clear hb); (try clear hb2); (try clear hk); (try clear hi); (try clear ho0); obtain ⟨Ao98, co98, eo98⟩ := Kd.R_slice HO152.out; subst eo98) | (go_at_call 16; (with_reducible refine (chars_Codes.calls kj33 3 t153 _ A91.out).mono ?_); rintro e w99 ⟨v154, rfl, ho0, hb⟩; have n0_ := Aside0.mk (Kd.R_elder' (by (with_reducible repeat (first | apply Kd.R_alloc | apply Kd.R_drewN | apply Kd.R_drew)); exact HO149.out) (Kd.R_base ho0) hb); have n1_ := Aside0.mk (Kd.R_elder' (by (with_reducible repeat (first | apply Kd.R_alloc | apply Kd.R_drewN | apply Kd.R_drew)); exact HO152.out) (Kd.R_base ho0) hb); have n2_ := Aside0.mk (Kd.R_lower (Kd.R_new' (Kd.R_new' ho0 (Kd.R_lt (by (with_reducible repeat (first | apply Kd.R_alloc | apply Kd.R_drewN | apply Kd.R_drew)); exact HO149.out))) (Kd.R_lt (by (with_reducible repeat (first | apply Kd.R_alloc | apply Kd.R_drewN | apply Kd.R_drew)); exact HO152.out))) (below_size (by repeat (first | (with_reducible first | exact HB.out | apply below_alloc | apply pw_below_drewN | apply below_drew1) | exact HB.out)))); have n3_ := Aside0.mk (below_step (by repeat (first | (with_reducible first | exact HB.out | apply below_alloc | apply pw_below_drewN | apply below_drew1) | exact HB.out)) hb); clear HO149; clear HO152; clear HB; have HO149 := n0_; have HO152 := n1_; have HO155 := n2_; have HB := n3_; clear n0_ n1_ n2_ n3_; (try clear hb); (try clear hb2); (try clear hk); (try clear hi); (try clear ho0); obtain ⟨Ao100, co100, eo100⟩ := Kd.R_slice HO155.out; subst eo100))
                              go_ret
                              exact ⟨by first | rfl | (simp [errW_none, errW_some] <;> rfl) | (simp [*, errW_none, errW_some] <;> rfl), by repeat (first | (with_reducible first | exact HB.out | apply below_alloc | apply pw_below_drewN | apply below_drew1) | exact HB.out)⟩
                            · rw [if_neg c90] at H
                              have c90b0 : ((t150.length : Int) == 48) = false := beq_eq_false_iff_ne.mpr c90
                              have c90b1 : ((t150.length : Int) != 48) = true := bne_iff_ne.mpr c90
                              obtain rfl := Option.some.inj H
                              go_wp2_with (first | ((with_reducible refine gate_callee (f := 9) rfl ?_); refine goesL_ (some 42) rfl rfl Try.func9 (by kernel_rfl) rfl #[.int .i64 104] rfl (by (try simp only [List.map_toArray, List.map_cons, List.map_nil]); first | done | rfl | (simp only [List.length_drop, List.length_take]; rfl)) ?_; (with_reducible refine (chars_Joins.calls kj33 104 true true _ A67.out).mono ?_); rintro e w101 ⟨rfl, hb⟩; refine ⟨_, rfl, ?_⟩; have n0_ := Aside0.mk (below_step (by repeat (first | (with_reducible first | exact HB.out | apply below_alloc | apply pw_below_drewN | apply below_drew1) | exact HB.out)) hb); clear HB; have HB := n0_; clear n0_; (try clear hb); (try clear hb2); (try clear hk); (try clear hi)) | ((with_reducible refine gate_callee (f := 9) rfl ?_); refine goesL_ (some 46) rfl rfl Try.func9 (by kernel_rfl) rfl #[.int .i64 128] rfl (by (try simp only [List.map_toArray, List.map_cons, List.map_nil]); first | done | rfl | (simp only [List.length_drop, List.length_take]; rfl)) ?_; (with_reducible refine (chars_Joins.calls kj33 128 true false _ A68.out).mono ?_); rintro e w102 ⟨rfl, hb⟩; refine ⟨_, rfl, ?_⟩; have n0_ := Aside0.mk (below_step (by repeat (first | (with_reducible first | exact HB.out | apply below_alloc | apply pw_below_drewN | apply below_drew1) | exact HB.out)) hb); clear HB; have HB := n0_; clear n0_; (try clear hb); (try clear hb2); (try clear hk); (try clear hi)) | ((with_reducible refine gate_callee (f := 9) rfl ?_); refine goesL_ (some 50) rfl rfl Try.func9 (by kernel_rfl) rfl #[.int .i64 64] rfl (by (try simp only [List.map_toArray, List.map_cons, List.map_nil]); first | done | rfl | (simp only [List.length_drop, List.length_take]; rfl)) ?_; (with_reducible refine (chars_Joins.calls kj33 64 false false _ A69.out).mono ?_); rintro e w103 ⟨rfl, hb⟩; refine ⟨_, rfl, ?_⟩; have n0_ := Aside0.mk (below_step (by repeat (first | (with_reducible first | exact HB.out | apply below_alloc | apply pw_below_drewN | apply below_drew1) | exact HB.out)) hb); clear HB; have HB := n0_; clear n0_; (try clear hb); (try clear hb2); (try clear hk); (try clear hi)) | (go_at_call 16; (with_reducible refine (chars_Codes.calls kj33 1 t147 _ A87.out).mono ?_); rintro e w104 ⟨v148, rfl, ho0, hb⟩; have n0_ := Aside0.mk (Kd.R_lower ho0 (below_size (by repeat (first | (with_reducible first | exact HB.out | apply below_alloc | apply pw_below_drewN | apply below_drew1) | exact HB.out)))); have n1_ := Aside0.mk (below_step (by repeat (first | (with_reducible first | exact HB.out | apply below_alloc | apply pw_below_drewN | apply below_drew1) | exact HB.out)) hb); clear HB; have HO149 := n0_; have HB := n1_; clear n0_ n1_; (try clear hb); (try clear hb2); (try clear hk); (try clear hi); (try clear ho0); obtain ⟨Ao105, co105, eo105⟩ := Kd.R_slice HO149.out; subst eo105) | (go_at_call 16; (with_reducible refine (chars_Codes.calls kj33 2 t150 _ A89.out).mono ?_); rintro e w106 ⟨v151, rfl, ho0, hb⟩; have n0_ := Aside0.mk (Kd.R_elder' (by (with_reducible repeat (first | apply Kd.R_alloc | apply Kd.R_drewN | apply Kd.R_drew)); exact HO149.out) (Kd.R_base ho0) hb); have n1_ := Aside0.mk (Kd.R_lower (Kd.R_new' ho0 (Kd.R_lt (by (with_reducible repeat (first | apply Kd.R_alloc | apply Kd.R_drewN | apply Kd.R_drew)); exact HO149.out))) (below_size (by repeat (first | (with_reducible first | exact HB.out | apply below_alloc | apply pw_below_drewN | apply below_drew1) | exact HB.out)))); have n2_ := Aside0.mk (below_step (by repeat (first | (with_reducible first | exact HB.out | apply below_alloc | apply pw_below_drewN | apply below_drew1) | exact HB.out)) hb); clear HO149; clear HB; have HO149 := n0_; have HO152 := n1_; have HB := n2_; clear n0_ n1_ n2_; (try clear hb); (try clear hb2); (try clear hk); (try clear hi); (try clear ho0); obtain ⟨Ao107, co107, eo107⟩ := Kd.R_slice HO152.out; subst eo107))
                              go_ret
                              exact ⟨by first | rfl | (simp [errW_none, errW_some] <;> rfl) | (simp [*, errW_none, errW_some] <;> rfl), by repeat (first | (with_reducible first | exact HB.out | apply below_alloc | apply pw_below_drewN | apply below_drew1) | exact HB.out)⟩
                          · rw [if_neg c88] at H
                            have c88b0 : ((t147.length : Int) == 40) = false := beq_eq_false_iff_ne.mpr c88
                            have c88b1 : ((t147.length : Int) != 40) = true := bne_iff_ne.mpr c88
                            obtain rfl := Option.some.inj H
                            go_wp2_with (first | ((with_reducible refine gate_callee (f := 9) rfl ?_); refine goesL_ (some 42) rfl rfl Try.func9 (by kernel_rfl) rfl #[.int .i64 104] rfl (by (try simp only [List.map_toArray, List.map_cons, List.map_nil]); first | done | rfl | (simp only [List.length_drop, List.length_take]; rfl)) ?_; (with_reducible refine (chars_Joins.calls kj33 104 true true _ A67.out).mono ?_); rintro e w108 ⟨rfl, hb⟩; refine ⟨_, rfl, ?_⟩; have n0_ := Aside0.mk (below_step (by repeat (first | (with_reducible first | exact HB.out | apply below_alloc | apply pw_below_drewN | apply below_drew1) | exact HB.out)) hb); clear HB; have HB := n0_; clear n0_; (try clear hb); (try clear hb2); (try clear hk); (try clear hi)) | ((with_reducible refine gate_callee (f := 9) rfl ?_); refine goesL_ (some 46) rfl rfl Try.func9 (by kernel_rfl) rfl #[.int .i64 128] rfl (by (try simp only [List.map_toArray, List.map_cons, List.map_nil]); first | done | rfl | (simp only [List.length_drop, List.length_take]; rfl)) ?_; (with_reducible refine (chars_Joins.calls kj33 128 true false _ A68.out).mono ?_); rintro e w109 ⟨rfl, hb⟩; refine ⟨_, rfl, ?_⟩; have n0_ := Aside0.mk (below_step (by repeat (first | (with_reducible first | exact HB.out | apply below_alloc | apply pw_below_drewN | apply below_drew1) | exact HB.out)) hb); clear HB; have HB := n0_; clear n0_; (try clear hb); (try clear hb2); (try clear hk); (try clear hi)) | ((with_reducible refine gate_callee (f := 9) rfl ?_); refine goesL_ (some 50) rfl rfl Try.func9 (by kernel_rfl) rfl #[.int .i64 64] rfl (by (try simp only [List.map_toArray, List.map_cons, List.map_nil]); first | done | rfl | (simp only [List.length_drop, List.length_take]; rfl)) ?_; (with_reducible refine (chars_Joins.calls kj33 64 false false _ A69.out).mono ?_); rintro e w110 ⟨rfl, hb⟩; refine ⟨_, rfl, ?_⟩; have n0_ := Aside0.mk (below_step (by repeat (first | (with_reducible first | exact HB.out | apply below_alloc | apply pw_below_drewN | apply below_drew1) | exact HB.out)) hb); clear HB; have HB := n0_; clear n0_; (try clear hb); (try clear hb2); (try clear hk); (try clear hi)) | (go_at_call 16; (with_reducible refine (chars_Codes.calls kj33 1 t147 _ A87.out).mono ?_); rintro e w111 ⟨v148, rfl, ho0, hb⟩; have n0_ := Aside0.mk (Kd.R_lower ho0 (below_size (by repeat (first | (with_reducible first | exact HB.out | apply below_alloc | apply pw_below_drewN | apply below_drew1) | exact HB.out)))); have n1_ := Aside0.mk (below_step (by repeat (first | (with_reducible first | exact HB.out | apply below_alloc | apply pw_below_drewN | apply below_drew1) | exact HB.out)) hb); clear HB; have HO149 := n0_; have HB := n1_; clear n0_ n1_; (try clear hb); (try clear hb2); (try clear hk); (try clear hi); (try clear ho0); obtain ⟨Ao112, co112, eo112⟩ := Kd.R_slice HO149.out; subst eo112))
                            go_ret
                            exact ⟨by first | rfl | (simp [errW_none, errW_some] <;> rfl) | (simp [*, errW_none, errW_some] <;> rfl), by repeat (first | (with_reducible first | exact HB.out | apply below_alloc | apply pw_below_drewN | apply below_drew1) | exact HB.out)⟩
                  · replace c74 := Bool.eq_false_iff.mpr c74
                    subst c74
                    have H1 : (some false) = some r := by rw [if_neg (show ¬ (false = true) by decide)] at H; exact H
                    clear H
                    have H := H1
                    clear H1
                    obtain rfl := Option.some.inj H
                    go_wp2_with (first | ((with_reducible refine gate_callee (f := 9) rfl ?_); refine goesL_ (some 42) rfl rfl Try.func9 (by kernel_rfl) rfl #[.int .i64 104] rfl (by (try simp only [List.map_toArray, List.map_cons, List.map_nil]); first | done | rfl | (simp only [List.length_drop, List.length_take]; rfl)) ?_; (with_reducible refine (chars_Joins.calls kj33 104 true true _ A67.out).mono ?_); rintro e w113 ⟨rfl, hb⟩; refine ⟨_, rfl, ?_⟩; have n0_ := Aside0.mk (below_step (by repeat (first | (with_reducible first | exact HB.out | apply below_alloc | apply pw_below_drewN | apply below_drew1) | exact HB.out)) hb); clear HB; have HB := n0_; clear n0_; (try clear hb); (try clear hb2); (try clear hk); (try clear hi)) | ((with_reducible refine gate_callee (f := 9) rfl ?_); refine goesL_ (some 46) rfl rfl Try.func9 (by kernel_rfl) rfl #[.int .i64 128] rfl (by (try simp only [List.map_toArray, List.map_cons, List.map_nil]); first | done | rfl | (simp only [List.length_drop, List.length_take]; rfl)) ?_; (with_reducible refine (chars_Joins.calls kj33 128 false t144 _ A68.out).mono ?_); rintro e w114 ⟨rfl, hb⟩; refine ⟨_, rfl, ?_⟩; have n0_ := Aside0.mk (below_step (by repeat (first | (with_reducible first | exact HB.out | apply below_alloc | apply pw_below_drewN | apply below_drew1) | exact HB.out)) hb); clear HB; have HB := n0_; clear n0_; (try clear hb); (try clear hb2); (try clear hk); (try clear hi)) | ((with_reducible refine gate_callee (f := 9) rfl ?_); refine goesL_ (some 50) rfl rfl Try.func9 (by kernel_rfl) rfl #[.int .i64 64] rfl (by (try simp only [List.map_toArray, List.map_cons, List.map_nil]); first | done | rfl | (simp only [List.length_drop, List.length_take]; rfl)) ?_; (with_reducible refine (chars_Joins.calls kj33 64 t145 t146 _ A69.out).mono ?_); rintro e w115 ⟨rfl, hb⟩; refine ⟨_, rfl, ?_⟩; have n0_ := Aside0.mk (below_step (by repeat (first | (with_reducible first | exact HB.out | apply below_alloc | apply pw_below_drewN | apply below_drew1) | exact HB.out)) hb); clear HB; have HB := n0_; clear n0_; (try clear hb); (try clear hb2); (try clear hk); (try clear hi)))
                    go_ret
                    exact ⟨by first | rfl | (simp [errW_none, errW_some] <;> rfl) | (simp [*, errW_none, errW_some] <;> rfl), by repeat (first | (with_reducible first | exact HB.out | apply below_alloc | apply pw_below_drewN | apply below_drew1) | exact HB.out)⟩
                · replace c73 := Bool.eq_false_iff.mpr c73
                  subst c73
                  have H1 : (some false) = some r := by rw [if_neg (show ¬ (false = true) by decide)] at H; exact H
                  clear H
                  have H := H1
                  clear H1
                  obtain rfl := Option.some.inj H
                  go_wp2_with (first | ((with_reducible refine gate_callee (f := 9) rfl ?_); refine goesL_ (some 42) rfl rfl Try.func9 (by kernel_rfl) rfl #[.int .i64 104] rfl (by (try simp only [List.map_toArray, List.map_cons, List.map_nil]); first | done | rfl | (simp only [List.length_drop, List.length_take]; rfl)) ?_; (with_reducible refine (chars_Joins.calls kj33 104 true false _ A67.out).mono ?_); rintro e w116 ⟨rfl, hb⟩; refine ⟨_, rfl, ?_⟩; have n0_ := Aside0.mk (below_step (by repeat (first | (with_reducible first | exact HB.out | apply below_alloc | apply pw_below_drewN | apply below_drew1) | exact HB.out)) hb); clear HB; have HB := n0_; clear n0_; (try clear hb); (try clear hb2); (try clear hk); (try clear hi)) | ((with_reducible refine gate_callee (f := 9) rfl ?_); refine goesL_ (some 46) rfl rfl Try.func9 (by kernel_rfl) rfl #[.int .i64 128] rfl (by (try simp only [List.map_toArray, List.map_cons, List.map_nil]); first | done | rfl | (simp only [List.length_drop, List.length_take]; rfl)) ?_; (with_reducible refine (chars_Joins.calls kj33 128 t143 t144 _ A68.out).mono ?_); rintro e w117 ⟨rfl, hb⟩; refine ⟨_, rfl, ?_⟩; have n0_ := Aside0.mk (below_step (by repeat (first | (with_reducible first | exact HB.out | apply below_alloc | apply pw_below_drewN | apply below_drew1) | exact HB.out)) hb); clear HB; have HB := n0_; clear n0_; (try clear hb); (try clear hb2); (try clear hk); (try clear hi)) | ((with_reducible refine gate_callee (f := 9) rfl ?_); refine goesL_ (some 50) rfl rfl Try.func9 (by kernel_rfl) rfl #[.int .i64 64] rfl (by (try simp only [List.map_toArray, List.map_cons, List.map_nil]); first | done | rfl | (simp only [List.length_drop, List.length_take]; rfl)) ?_; (with_reducible refine (chars_Joins.calls kj33 64 t145 t146 _ A69.out).mono ?_); rintro e w118 ⟨rfl, hb⟩; refine ⟨_, rfl, ?_⟩; have n0_ := Aside0.mk (below_step (by repeat (first | (with_reducible first | exact HB.out | apply below_alloc | apply pw_below_drewN | apply below_drew1) | exact HB.out)) hb); clear HB; have HB := n0_; clear n0_; (try clear hb); (try clear hb2); (try clear hk); (try clear hi)))
                  go_ret
                  exact ⟨by first | rfl | (simp [errW_none, errW_some] <;> rfl) | (simp [*, errW_none, errW_some] <;> rfl), by repeat (first | (with_reducible first | exact HB.out | apply below_alloc | apply pw_below_drewN | apply below_drew1) | exact HB.out)⟩
              · replace c72 := Bool.eq_false_iff.mpr c72
                subst c72
                have H1 : (some false) = some r := by rw [if_neg (show ¬ (false = true) by decide)] at H; exact H
                clear H
                have H := H1
                clear H1
                obtain rfl := Option.some.inj H
                go_wp2_with (first | ((with_reducible refine gate_callee (f := 9) rfl ?_); refine goesL_ (some 42) rfl rfl Try.func9 (by kernel_rfl) rfl #[.int .i64 104] rfl (by (try simp only [List.map_toArray, List.map_cons, List.map_nil]); first | done | rfl | (simp only [List.length_drop, List.length_take]; rfl)) ?_; (with_reducible refine (chars_Joins.calls kj33 104 false t142 _ A67.out).mono ?_); rintro e w119 ⟨rfl, hb⟩; refine ⟨_, rfl, ?_⟩; have n0_ := Aside0.mk (below_step (by repeat (first | (with_reducible first | exact HB.out | apply below_alloc | apply pw_below_drewN | apply below_drew1) | exact HB.out)) hb); clear HB; have HB := n0_; clear n0_; (try clear hb); (try clear hb2); (try clear hk); (try clear hi)) | ((with_reducible refine gate_callee (f := 9) rfl ?_); refine goesL_ (some 46) rfl rfl Try.func9 (by kernel_rfl) rfl #[.int .i64 128] rfl (by (try simp only [List.map_toArray, List.map_cons, List.map_nil]); first | done | rfl | (simp only [List.length_drop, List.length_take]; rfl)) ?_; (with_reducible refine (chars_Joins.calls kj33 128 t143 t144 _ A68.out).mono ?_); rintro e w120 ⟨rfl, hb⟩; refine ⟨_, rfl, ?_⟩; have n0_ := Aside0.mk (below_step (by repeat (first | (with_reducible first | exact HB.out | apply below_alloc | apply pw_below_drewN | apply below_drew1) | exact HB.out)) hb); clear HB; have HB := n0_; clear n0_; (try clear hb); (try clear hb2); (try clear hk); (try clear hi)) | ((with_reducible refine gate_callee (f := 9) rfl ?_); refine goesL_ (some 50) rfl rfl Try.func9 (by kernel_rfl) rfl #[.int .i64 64] rfl (by (try simp only [List.map_toArray, List.map_cons, List.map_nil]); first | done | rfl | (simp only [List.length_drop, List.length_take]; rfl)) ?_; (with_reducible refine (chars_Joins.calls kj33 64 t145 t146 _ A69.out).mono ?_); rintro e w121 ⟨rfl, hb⟩; refine ⟨_, rfl, ?_⟩; have n0_ := Aside0.mk (below_step (by repeat (first | (with_reducible first | exact HB.out | apply below_alloc | apply pw_below_drewN | apply below_drew1) | exact HB.out)) hb); clear HB; have HB := n0_; clear n0_; (try clear hb); (try clear hb2); (try clear hk); (try clear hi)))
                go_ret
                exact ⟨by first | rfl | (simp [errW_none, errW_some] <;> rfl) | (simp [*, errW_none, errW_some] <;> rfl), by repeat (first | (with_reducible first | exact HB.out | apply below_alloc | apply pw_below_drewN | apply below_drew1) | exact HB.out)⟩
            · replace c71 := Bool.eq_false_iff.mpr c71
              subst c71
              have H1 : (some false) = some r := by rw [if_neg (show ¬ (false = true) by decide)] at H; exact H
              clear H
              have H := H1
              clear H1
              obtain rfl := Option.some.inj H
              go_wp2_with (first | ((with_reducible refine gate_callee (f := 9) rfl ?_); refine goesL_ (some 42) rfl rfl Try.func9 (by kernel_rfl) rfl #[.int .i64 104] rfl (by (try simp only [List.map_toArray, List.map_cons, List.map_nil]); first | done | rfl | (simp only [List.length_drop, List.length_take]; rfl)) ?_; (with_reducible refine (chars_Joins.calls kj33 104 t141 t142 _ A67.out).mono ?_); rintro e w122 ⟨rfl, hb⟩; refine ⟨_, rfl, ?_⟩; have n0_ := Aside0.mk (below_step (by repeat (first | (with_reducible first | exact HB.out | apply below_alloc | apply pw_below_drewN | apply below_drew1) | exact HB.out)) hb); clear HB; have HB := n0_; clear n0_; (try clear hb); (try clear hb2); (try clear hk); (try clear hi)) | ((with_reducible refine gate_callee (f := 9) rfl ?_); refine goesL_ (some 46) rfl rfl Try.func9 (by kernel_rfl) rfl #[.int .i64 128] rfl (by (try simp only [List.map_toArray, List.map_cons, List.map_nil]); first | done | rfl | (simp only [List.length_drop, List.length_take]; rfl)) ?_; (with_reducible refine (chars_Joins.calls kj33 128 t143 t144 _ A68.out).mono ?_); rintro e w123 ⟨rfl, hb⟩; refine ⟨_, rfl, ?_⟩; have n0_ := Aside0.mk (below_step (by repeat (first | (with_reducible first | exact HB.out | apply below_alloc | apply pw_below_drewN | apply below_drew1) | exact HB.out)) hb); clear HB; have HB := n0_; clear n0_; (try clear hb); (try clear hb2); (try clear hk); (try clear hi)) | ((with_reducible refine gate_callee (f := 9) rfl ?_); refine goesL_ (some 50) rfl rfl Try.func9 (by kernel_rfl) rfl #[.int .i64 64] rfl (by (try simp only [List.map_toArray, List.map_cons, List.map_nil]); first | done | rfl | (simp only [List.length_drop, List.length_take]; rfl)) ?_; (with_reducible refine (chars_Joins.calls kj33 64 t145 t146 _ A69.out).mono ?_); rintro e w124 ⟨rfl, hb⟩; refine ⟨_, rfl, ?_⟩; have n0_ := Aside0.mk (below_step (by repeat (first | (with_reducible first | exact HB.out | apply below_alloc | apply pw_below_drewN | apply below_drew1) | exact HB.out)) hb); clear HB; have HB := n0_; clear n0_; (try clear hb); (try clear hb2); (try clear hk); (try clear hi)))
              go_ret
              exact ⟨by first | rfl | (simp [errW_none, errW_some] <;> rfl) | (simp [*, errW_none, errW_some] <;> rfl), by repeat (first | (with_reducible first | exact HB.out | apply below_alloc | apply pw_below_drewN | apply below_drew1) | exact HB.out)⟩
          · replace c70 := Bool.eq_false_iff.mpr c70
            subst c70
            have H1 : (some false) = some r := by rw [if_neg (show ¬ (false = true) by decide)] at H; exact H
            clear H
            have H := H1
            clear H1
            obtain rfl := Option.some.inj H
            go_wp2_with (first | ((with_reducible refine gate_callee (f := 9) rfl ?_); refine goesL_ (some 42) rfl rfl Try.func9 (by kernel_rfl) rfl #[.int .i64 104] rfl (by (try simp only [List.map_toArray, List.map_cons, List.map_nil]); first | done | rfl | (simp only [List.length_drop, List.length_take]; rfl)) ?_; (with_reducible refine (chars_Joins.calls kj33 104 t141 t142 _ A67.out).mono ?_); rintro e w125 ⟨rfl, hb⟩; refine ⟨_, rfl, ?_⟩; have n0_ := Aside0.mk (below_step (by repeat (first | (with_reducible first | exact HB.out | apply below_alloc | apply pw_below_drewN | apply below_drew1) | exact HB.out)) hb); clear HB; have HB := n0_; clear n0_; (try clear hb); (try clear hb2); (try clear hk); (try clear hi)) | ((with_reducible refine gate_callee (f := 9) rfl ?_); refine goesL_ (some 46) rfl rfl Try.func9 (by kernel_rfl) rfl #[.int .i64 128] rfl (by (try simp only [List.map_toArray, List.map_cons, List.map_nil]); first | done | rfl | (simp only [List.length_drop, List.length_take]; rfl)) ?_; (with_reducible refine (chars_Joins.calls kj33 128 t143 t144 _ A68.out).mono ?_); rintro e w126 ⟨rfl, hb⟩; refine ⟨_, rfl, ?_⟩; have n0_ := Aside0.mk (below_step (by repeat (first | (with_reducible first | exact HB.out | apply below_alloc | apply pw_below_drewN | apply below_drew1) | exact HB.out)) hb); clear HB; have HB := n0_; clear n0_; (try clear hb); (try clear hb2); (try clear hk); (try clear hi)) | ((with_reducible refine gate_callee (f := 9) rfl ?_); refine goesL_ (some 50) rfl rfl Try.func9 (by kernel_rfl) rfl #[.int .i64 64] rfl (by (try simp only [List.map_toArray, List.map_cons, List.map_nil]); first | done | rfl | (simp only [List.length_drop, List.length_take]; rfl)) ?_; (with_reducible refine (chars_Joins.calls kj33 64 t145 t146 _ A69.out).mono ?_); rintro e w127 ⟨rfl, hb⟩; refine ⟨_, rfl, ?_⟩; have n0_ := Aside0.mk (below_step (by repeat (first | (with_reducible first | exact HB.out | apply below_alloc | apply pw_below_drewN | apply below_drew1) | exact HB.out)) hb); clear HB; have HB := n0_; clear n0_; (try clear hb); (try clear hb2); (try clear hk); (try clear hi)))
            go_ret
            exact ⟨by first | rfl | (simp [errW_none, errW_some] <;> rfl) | (simp [*, errW_none, errW_some] <;> rfl), by repeat (first | (with_reducible first | exact HB.out | apply below_alloc | apply pw_below_drewN | apply below_drew1) | exact HB.out)⟩

/-! ### abugidaref05_within: function 23 -/
def abugidaref05_within.f (a0 : Int) (a1 : Int) (a2 : Int) : Option (Bool) := if a0 ≥ a1 then (some (decide (a0 ≤ a2))) else (some false)
set_option maxHeartbeats 8000000 in
set_option maxRecDepth 100000 in
theorem abugidaref05_within.calls (a0 : Int) (a1 : Int) (a2 : Int) (r : Bool) (w : World) (h : abugidaref05_within.f a0 a1 a2 = some r) :
    Calls Try.prog 23 #[.int .i64 a0, .int .i64 a1, .int .i64 a2] w fun e w' => e = .returned (.bool r) ∧ Drawn0 w w' := by
  have H : (if a0 ≥ a1 then (some (decide (a0 ≤ a2))) else (some false)) = some r := h
  clear h
  by_cases c4 : a0 ≥ a1
  · rw [if_pos c4] at H
    have c4b0 : decide (a1 ≤ a0) = true := decide_eq_true c4
    clear c4
    obtain rfl := Option.some.inj H
    go_enter Try.func23, Try.ntmps23
    go_wp2
    go_ret
    exact ⟨by first | rfl | (simp; done) | (simp [*]; done), by repeat (first | exact Drawn0.refl _ | apply Drawn0.step)⟩
  · rw [if_neg c4] at H
    have c4b0 : decide (a1 ≤ a0) = false := decide_eq_false c4
    clear c4
    obtain rfl := Option.some.inj H
    go_enter Try.func23, Try.ntmps23
    go_wp2
    go_ret
    exact ⟨by first | rfl | (simp; done) | (simp [*]; done), by repeat (first | exact Drawn0.refl _ | apply Drawn0.step)⟩

end Go.Proofs.Ytmgiapmkggkmhaa.Q

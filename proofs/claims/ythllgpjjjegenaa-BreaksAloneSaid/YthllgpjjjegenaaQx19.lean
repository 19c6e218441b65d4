-- Written by wip/tools/myprint.py, a program of this session that drives the kit's print.py; not a text of print.sh.
import Derived.Test.YthllgpjjjegenaaQx0
import Derived.Test.YthllgpjjjegenaaQx1
import Derived.Test.YthllgpjjjegenaaQx4
import Derived.Test.YthllgpjjjegenaaQx7
import Derived.Test.YthllgpjjjegenaaQx8
namespace Go.Proofs.Ythllgpjjjegenaa.Q
open Go.RowKit Go.Proofs.YthllgpjjjegenaaW.PrintWords Go.Proofs.YthllgpjjjegenaaW.PrintLast Go.Proofs.YthllgpjjjegenaaW.PrintMore
attribute [local go_sem] max2_int min2_int max_two min_two max_three min_three max_four min_four   -- for this text's walks alone
set_option linter.unusedVariables false
set_option linter.unusedSimpArgs false

/-! ### abugidalaw08_BreaksAlone: function 8 -/
def abugidalaw08_BreaksAlone.j0 : Nat → Bool → List Int → List Int → List Int → Bool → Option (Bool)
  | 0, _, _, _, _, _ => none
  | k + 1, x5, x8, x9, x10, x41 => if x41 = true then (some false) else (if x5 = true then (if 0 ≤ (x8.length : Int) then (if (x8.length : Int) ≤ (x10.length : Int) then ((abugidalaw08_is.f k (x10.take ((x8.length : Int) : Int).toNat) x8).bind fun t500 => (if t500 = true then (if 0 ≤ (wrap64 ((x8.length : Int) + 1)) then (if (wrap64 ((x8.length : Int) + 1)) ≤ (x10.length : Int) then ((abugidalaw08_is.f k (x10.drop ((wrap64 ((x8.length : Int) + 1)) : Int).toNat) x9).bind fun t505 => (some t505)) else (none)) else (none)) else (some false))) else (none)) else (none)) else (some false))
def abugidalaw08_BreaksAlone.f (k : Nat) (l0 : List Int) (l1 : List Int) : Option (Bool) := (abugidalaw08_sanity.f k).bind fun t483 => ((abugidaref05_Text.f k l0 30).bind fun t484 => ((abugidaref05_Text.f k l1 30).bind fun t485 => ((breaks_May.f k t484).bind fun t486 => ((breaks_May.f k t485).bind fun t489 => (if t484.size + 1 ≤ 9223372036854775807 then (if (t484 ++ (⟨#[10]⟩ : ByteArray)).size + t485.size ≤ 9223372036854775807 then ((breaks_May.f k ((t484 ++ (⟨#[10]⟩ : ByteArray)) ++ t485)).bind fun t492 => (if (t492.length : Int) = (wrap64 ((wrap64 ((t486.length : Int) + 1)) + (t489.length : Int))) then (if 0 ≤ (t486.length : Int) then (if (t486.length : Int) < (t492.length : Int) then (abugidalaw08_BreaksAlone.j0 k t483 t486 t489 t492 ((rd t492 (t486.length : Int)) != 2)) else (none)) else (none)) else (abugidalaw08_BreaksAlone.j0 k t483 t486 t489 t492 true))) else (none)) else (none))))))
theorem abugidalaw08_BreaksAlone.mono_l : ∀ k, (∀ y0 y1 y2 y3 y4, LeO (abugidalaw08_BreaksAlone.j0 k y0 y1 y2 y3 y4) (abugidalaw08_BreaksAlone.j0 (k + 1) y0 y1 y2 y3 y4))
  | 0 => fun _ _ _ _ _ r h => by simp [abugidalaw08_BreaksAlone.j0] at h
  | k + 1 => by
    have ih0 := abugidalaw08_BreaksAlone.mono_l k
    · intro y0 y1 y2 y3 y4
      unfold abugidalaw08_BreaksAlone.j0
      repeat' first
      | (with_reducible exact ih0 _ _ _ _ _)
      | (with_reducible exact abugidalaw08_is.mono _ _ _)
      | (with_reducible exact abugidalaw08_sanity.mono _)
      | (with_reducible exact abugidaref05_Text.mono _ _ _)
      | (with_reducible exact breaks_May.mono _ _)
      | (with_reducible exact LeO.refl _)
      | (with_reducible exact LeO.none _)
      | (with_reducible refine LeO.ite ?_ ?_)
      | (with_reducible refine LeO.bind ?_ (fun _ => ?_))
      | exact ih0 _ _ _ _ _
      | exact abugidalaw08_is.mono _ _ _
      | exact abugidalaw08_sanity.mono _
      | exact abugidaref05_Text.mono _ _ _
      | exact breaks_May.mono _ _
      | exact LeO.none _
      | refine LeO.ite ?_ ?_
      | refine LeO.bind ?_ (fun _ => ?_)
theorem abugidalaw08_BreaksAlone.mono : ∀ a0 a1 k, LeO (abugidalaw08_BreaksAlone.f k a0 a1) (abugidalaw08_BreaksAlone.f (k + 1) a0 a1) := by
  intro a0 a1 k
  have ih0 := abugidalaw08_BreaksAlone.mono_l k
  unfold abugidalaw08_BreaksAlone.f
  repeat' first
      | (with_reducible exact ih0 _ _ _ _ _)
      | (with_reducible exact abugidalaw08_is.mono _ _ _)
      | (with_reducible exact abugidalaw08_sanity.mono _)
      | (with_reducible exact abugidaref05_Text.mono _ _ _)
      | (with_reducible exact breaks_May.mono _ _)
      | (with_reducible exact LeO.refl _)
      | (with_reducible exact LeO.none _)
      | (with_reducible refine LeO.ite ?_ ?_)
      | (with_reducible refine LeO.bind ?_ (fun _ => ?_))
      | exact ih0 _ _ _ _ _
      | exact abugidalaw08_is.mono _ _ _
      | exact abugidalaw08_sanity.mono _
      | exact abugidaref05_Text.mono _ _ _
      | exact breaks_May.mono _ _
      | exact LeO.none _
      | refine LeO.ite ?_ ?_
      | refine LeO.bind ?_ (fun _ => ?_)
set_option maxHeartbeats 8000000 in
set_option maxRecDepth 100000 in
theorem abugidalaw08_BreaksAlone.calls (k : Nat) (A0 : Option Addr) (c0 : Nat) (l0 : List Int) (A1 : Option Addr) (c1 : Nat) (l1 : List Int) (r : Bool) (w : World) (hr0 : Kd.C (Kd.int .i64) w A0 l0.length l0) (hc0 : l0.length ≤ c0) (hr1 : Kd.C (Kd.int .i64) w A1 l1.length l1) (hc1 : l1.length ≤ c1) (h : abugidalaw08_BreaksAlone.f k l0 l1 = some r) :
    Calls Try.prog 8 #[.slice A0 l0.length c0, .slice A1 l1.length c1] w fun e w' => e = .returned (.bool r) ∧ Below w.heap.size w w' := by
  have HR0 := Aside0.mk hr0
  have HC0 := Aside0.mk hc0
  clear hr0 hc0
  have HR1 := Aside0.mk hr1
  have HC1 := Aside0.mk hc1
  clear hr1 hc1
  have HB := Aside0.mk (Below.refl w.heap.size w)
  have H : ((abugidalaw08_sanity.f k).bind fun t483 => ((abugidaref05_Text.f k l0 30).bind fun t484 => ((abugidaref05_Text.f k l1 30).bind fun t485 => ((breaks_May.f k t484).bind fun t486 => ((breaks_May.f k t485).bind fun t489 => (if t484.size + 1 ≤ 9223372036854775807 then (if (t484 ++ (⟨#[10]⟩ : ByteArray)).size + t485.size ≤ 9223372036854775807 then ((breaks_May.f k ((t484 ++ (⟨#[10]⟩ : ByteArray)) ++ t485)).bind fun t492 => (if (t492.length : Int) = (wrap64 ((wrap64 ((t486.length : Int) + 1)) + (t489.length : Int))) then (if 0 ≤ (t486.length : Int) then (if (t486.length : Int) < (t492.length : Int) then (abugidalaw08_BreaksAlone.j0 k t483 t486 t489 t492 ((rd t492 (t486.length : Int)) != 2)) else (none)) else (none)) else (abugidalaw08_BreaksAlone.j0 k t483 t486 t489 t492 true))) else (none)) else (none))))))) = some r := h
  clear h
  replace H := Option.bind_eq_some_iff.mp H
  obtain ⟨t483, A30, H⟩ := H
  replace H : ((abugidaref05_Text.f k l0 30).bind fun t484 => ((abugidaref05_Text.f k l1 30).bind fun t485 => ((breaks_May.f k t484).bind fun t486 => ((breaks_May.f k t485).bind fun t489 => (if t484.size + 1 ≤ 9223372036854775807 then (if (t484 ++ (⟨#[10]⟩ : ByteArray)).size + t485.size ≤ 9223372036854775807 then ((breaks_May.f k ((t484 ++ (⟨#[10]⟩ : ByteArray)) ++ t485)).bind fun t492 => (if (t492.length : Int) = (wrap64 ((wrap64 ((t486.length : Int) + 1)) + (t489.length : Int))) then (if 0 ≤ (t486.length : Int) then (if (t486.length : Int) < (t492.length : Int) then (abugidalaw08_BreaksAlone.j0 k t483 t486 t489 t492 ((rd t492 (t486.length : Int)) != 2)) else (none)) else (none)) else (abugidalaw08_BreaksAlone.j0 k t483 t486 t489 t492 true))) else (none)) else (none)))))) = some r := H
  have A3 := Aside0.mk A30
  clear A30
  replace H := Option.bind_eq_some_iff.mp H
  obtain ⟨t484, A40, H⟩ := H
  replace H : ((abugidaref05_Text.f k l1 30).bind fun t485 => ((breaks_May.f k t484).bind fun t486 => ((breaks_May.f k t485).bind fun t489 => (if t484.size + 1 ≤ 9223372036854775807 then (if (t484 ++ (⟨#[10]⟩ : ByteArray)).size + t485.size ≤ 9223372036854775807 then ((breaks_May.f k ((t484 ++ (⟨#[10]⟩ : ByteArray)) ++ t485)).bind fun t492 => (if (t492.length : Int) = (wrap64 ((wrap64 ((t486.length : Int) + 1)) + (t489.length : Int))) then (if 0 ≤ (t486.length : Int) then (if (t486.length : Int) < (t492.length : Int) then (abugidalaw08_BreaksAlone.j0 k t483 t486 t489 t492 ((rd t492 (t486.length : Int)) != 2)) else (none)) else (none)) else (abugidalaw08_BreaksAlone.j0 k t483 t486 t489 t492 true))) else (none)) else (none))))) = some r := H
  have A4 := Aside0.mk A40
  clear A40
  replace H := Option.bind_eq_some_iff.mp H
  obtain ⟨t485, A50, H⟩ := H
  replace H : ((breaks_May.f k t484).bind fun t486 => ((breaks_May.f k t485).bind fun t489 => (if t484.size + 1 ≤ 9223372036854775807 then (if (t484 ++ (⟨#[10]⟩ : ByteArray)).size + t485.size ≤ 9223372036854775807 then ((breaks_May.f k ((t484 ++ (⟨#[10]⟩ : ByteArray)) ++ t485)).bind fun t492 => (if (t492.length : Int) = (wrap64 ((wrap64 ((t486.length : Int) + 1)) + (t489.length : Int))) then (if 0 ≤ (t486.length : Int) then (if (t486.length : Int) < (t492.length : Int) then (abugidalaw08_BreaksAlone.j0 k t483 t486 t489 t492 ((rd t492 (t486.length : Int)) != 2)) else (none)) else (none)) else (abugidalaw08_BreaksAlone.j0 k t483 t486 t489 t492 true))) else (none)) else (none)))) = some r := H
  have A5 := Aside0.mk A50
  clear A50
  replace H := Option.bind_eq_some_iff.mp H
  obtain ⟨t486, A60, H⟩ := H
  replace H : ((breaks_May.f k t485).bind fun t489 => (if t484.size + 1 ≤ 9223372036854775807 then (if (t484 ++ (⟨#[10]⟩ : ByteArray)).size + t485.size ≤ 9223372036854775807 then ((breaks_May.f k ((t484 ++ (⟨#[10]⟩ : ByteArray)) ++ t485)).bind fun t492 => (if (t492.length : Int) = (wrap64 ((wrap64 ((t486.length : Int) + 1)) + (t489.length : Int))) then (if 0 ≤ (t486.length : Int) then (if (t486.length : Int) < (t492.length : Int) then (abugidalaw08_BreaksAlone.j0 k t483 t486 t489 t492 ((rd t492 (t486.length : Int)) != 2)) else (none)) else (none)) else (abugidalaw08_BreaksAlone.j0 k t483 t486 t489 t492 true))) else (none)) else (none))) = some r := H
  have A6 := Aside0.mk A60
  clear A60
  replace H := Option.bind_eq_some_iff.mp H
  obtain ⟨t489, A70, H⟩ := H
  replace H : (if t484.size + 1 ≤ 9223372036854775807 then (if (t484 ++ (⟨#[10]⟩ : ByteArray)).size + t485.size ≤ 9223372036854775807 then ((breaks_May.f k ((t484 ++ (⟨#[10]⟩ : ByteArray)) ++ t485)).bind fun t492 => (if (t492.length : Int) = (wrap64 ((wrap64 ((t486.length : Int) + 1)) + (t489.length : Int))) then (if 0 ≤ (t486.length : Int) then (if (t486.length : Int) < (t492.length : Int) then (abugidalaw08_BreaksAlone.j0 k t483 t486 t489 t492 ((rd t492 (t486.length : Int)) != 2)) else (none)) else (none)) else (abugidalaw08_BreaksAlone.j0 k t483 t486 t489 t492 true))) else (none)) else (none)) = some r := H
  have A7 := Aside0.mk A70
  clear A70
  by_cases c8 : t484.size + 1 ≤ 9223372036854775807
  · rw [if_pos c8] at H
    have c8b0 := eq_true c8
    have c8b1 : decide (t484.size + 1 ≤ 9223372036854775807) = true := decide_eq_true c8
    try have c8b2 : (9223372036854775807 < t484.size + 1) = False := eq_false (Nat.not_lt.2 c8)
    by_cases c9 : (t484 ++ (⟨#[10]⟩ : ByteArray)).size + t485.size ≤ 9223372036854775807
    · rw [if_pos c9] at H
      have c9b0 := eq_true c9
      have c9b1 : decide ((t484 ++ (⟨#[10]⟩ : ByteArray)).size + t485.size ≤ 9223372036854775807) = true := decide_eq_true c9
      try have c9b2 : (9223372036854775807 < (t484 ++ (⟨#[10]⟩ : ByteArray)).size + t485.size) = False := eq_false (Nat.not_lt.2 c9)
      replace H := Option.bind_eq_some_iff.mp H
      obtain ⟨t492, A100, H⟩ := H
      replace H : (if (t492.length : Int) = (wrap64 ((wrap64 ((t486.length : Int) + 1)) + (t489.length : Int))) then (if 0 ≤ (t486.length : Int) then (if (t486.length : Int) < (t492.length : Int) then (abugidalaw08_BreaksAlone.j0 k t483 t486 t489 t492 ((rd t492 (t486.length : Int)) != 2)) else (none)) else (none)) else (abugidalaw08_BreaksAlone.j0 k t483 t486 t489 t492 true)) = some r := H
      have A10 := Aside0.mk A100
      clear A100
      have HC11 := Aside0.mk H
      clear H
      go_enter Try.func8, Try.ntmps8
      go_upto_region 7 with (first | ((with_reducible refine gate_callee (f := 9) rfl ?_); refine goesL_ (some 11) rfl rfl Try.func9 (by kernel_rfl) rfl #[] rfl (by (try simp only [List.map_toArray, List.map_cons, List.map_nil]); first | done | rfl | (simp only [List.length_drop, List.length_take]; rfl)) ?_; (with_reducible refine (abugidalaw08_sanity.calls k  t483 _ A3.out).mono ?_); rintro e w12 ⟨rfl, hb⟩; refine ⟨_, rfl, ?_⟩; have n0_ := Aside0.mk (below_step (by repeat (first | (with_reducible first | exact HB.out | apply below_alloc | apply pw_below_drewN | apply below_drew1) | exact HB.out)) hb); clear HB; have HB := n0_; clear n0_; (try clear hb); (try clear hb2); (try clear hk); (try clear hi)) | ((with_reducible refine gate_callee (f := 10) rfl ?_); refine goesL_ (some 13) rfl rfl Try.func10 (by kernel_rfl) rfl #[.slice A0 l0.length c0, .int .i64 30] rfl (by (try simp only [List.map_toArray, List.map_cons, List.map_nil]); first | done | rfl | (simp only [List.length_drop, List.length_take]; rfl)) ?_; (with_reducible refine (abugidaref05_Text.calls k _ _ l0 30 t484 _ ?side1 ?side2 A4.out).mono ?_); (case side1 => repeat (first | exact (Kd.C_below HR0.out HB.out) | (with_reducible refine Kd.C_alloc ?_ _) | (with_reducible refine Kd.C_drewN ?_ _) | (with_reducible refine Kd.C_drew ?_))); (case side2 => exact HC0.out); rintro e w13 ⟨rfl, hb⟩; refine ⟨_, rfl, ?_⟩; have n0_ := Aside0.mk (below_step (by repeat (first | (with_reducible first | exact HB.out | apply below_alloc | apply pw_below_drewN | apply below_drew1) | exact HB.out)) hb); clear HB; have HB := n0_; clear n0_; (try clear hb); (try clear hb2); (try clear hk); (try clear hi)) | ((with_reducible refine gate_callee (f := 10) rfl ?_); refine goesL_ (some 15) rfl rfl Try.func10 (by kernel_rfl) rfl #[.slice A1 l1.length c1, .int .i64 30] rfl (by (try simp only [List.map_toArray, List.map_cons, List.map_nil]); first | done | rfl | (simp only [List.length_drop, List.length_take]; rfl)) ?_; (with_reducible refine (abugidaref05_Text.calls k _ _ l1 30 t485 _ ?side1 ?side2 A5.out).mono ?_); (case side1 => repeat (first | exact (Kd.C_below HR1.out HB.out) | (with_reducible refine Kd.C_alloc ?_ _) | (with_reducible refine Kd.C_drewN ?_ _) | (with_reducible refine Kd.C_drew ?_))); (case side2 => exact HC1.out); rintro e w14 ⟨rfl, hb⟩; refine ⟨_, rfl, ?_⟩; have n0_ := Aside0.mk (below_step (by repeat (first | (with_reducible first | exact HB.out | apply below_alloc | apply pw_below_drewN | apply below_drew1) | exact HB.out)) hb); clear HB; have HB := n0_; clear n0_; (try clear hb); (try clear hb2); (try clear hk); (try clear hi)) | ((with_reducible refine gate_callee (f := 12) rfl ?_); refine goesL_ (some 17) rfl rfl Try.func12 (by kernel_rfl) rfl #[.string t484] rfl (by (try simp only [List.map_toArray, List.map_cons, List.map_nil]); first | done | rfl | (simp only [List.length_drop, List.length_take]; rfl)) ?_; (with_reducible refine (breaks_May.calls k t484 t486 _ A6.out).mono ?_); rintro e w15 ⟨v487, rfl, ho0, hb⟩; refine ⟨_, rfl, ?_⟩; have n0_ := Aside0.mk (Kd.R_lower ho0 (below_size (by repeat (first | (with_reducible first | exact HB.out | apply below_alloc | apply pw_below_drewN | apply below_drew1) | exact HB.out)))); have n1_ := Aside0.mk (below_step (by repeat (first | (with_reducible first | exact HB.out | apply below_alloc | apply pw_below_drewN | apply below_drew1) | exact HB.out)) hb); clear HB; have HO488 := n0_; have HB := n1_; clear n0_ n1_; (try clear hb); (try clear hb2); (try clear hk); (try clear hi); (try clear ho0)) | ((with_reducible refine gate_callee (f := 12) rfl ?_); refine goesL_ (some 19) rfl rfl Try.func12 (by kernel_rfl) rfl #[.string t485] rfl (by (try simp only [List.map_toArray, List.map_cons, List.map_nil]); first | done | rfl | (simp only [List.length_drop, List.length_take]; rfl)) ?_; (with_reducible refine (breaks_May.calls k t485 t489 _ A7.out).mono ?_); rintro e w16 ⟨v490, rfl, ho0, hb⟩; refine ⟨_, rfl, ?_⟩; have n0_ := Aside0.mk (Kd.R_elder' (by (with_reducible repeat (first | apply Kd.R_alloc | apply Kd.R_drewN | apply Kd.R_drew)); exact HO488.out) (Kd.R_base ho0) hb); have n1_ := Aside0.mk (Kd.R_lower (Kd.R_new' ho0 (Kd.R_lt (by (with_reducible repeat (first | apply Kd.R_alloc | apply Kd.R_drewN | apply Kd.R_drew)); exact HO488.out))) (below_size (by repeat (first | (with_reducible first | exact HB.out | apply below_alloc | apply pw_below_drewN | apply below_drew1) | exact HB.out)))); have n2_ := Aside0.mk (below_step (by repeat (first | (with_reducible first | exact HB.out | apply below_alloc | apply pw_below_drewN | apply below_drew1) | exact HB.out)) hb); clear HO488; clear HB; have HO488 := n0_; have HO491 := n1_; have HB := n2_; clear n0_ n1_ n2_; (try clear hb); (try clear hb2); (try clear hk); (try clear hi); (try clear ho0)) | ((with_reducible refine gate_callee (f := 12) rfl ?_); refine goesL_ (some 24) rfl rfl Try.func12 (by kernel_rfl) rfl #[.string ((t484 ++ (⟨#[10]⟩ : ByteArray)) ++ t485)] rfl (by (try simp only [List.map_toArray, List.map_cons, List.map_nil]); first | done | rfl | (simp only [List.length_drop, List.length_take]; rfl)) ?_; (with_reducible refine (breaks_May.calls k ((t484 ++ (⟨#[10]⟩ : ByteArray)) ++ t485) t492 _ A10.out).mono ?_); rintro e w17 ⟨v493, rfl, ho0, hb⟩; refine ⟨_, rfl, ?_⟩; have n0_ := Aside0.mk (Kd.R_elder' (by (with_reducible repeat (first | apply Kd.R_alloc | apply Kd.R_drewN | apply Kd.R_drew)); exact HO488.out) (Kd.R_base ho0) hb); have n1_ := Aside0.mk (Kd.R_elder' (by (with_reducible repeat (first | apply Kd.R_alloc | apply Kd.R_drewN | apply Kd.R_drew)); exact HO491.out) (Kd.R_base ho0) hb); have n2_ := Aside0.mk (Kd.R_lower (Kd.R_new' (Kd.R_new' ho0 (Kd.R_lt (by (with_reducible repeat (first | apply Kd.R_alloc | apply Kd.R_drewN | apply Kd.R_drew)); exact HO488.out))) (Kd.R_lt (by (with_reducible repeat (first | apply Kd.R_alloc | apply Kd.R_drewN | apply Kd.R_drew)); exact HO491.out))) (below_size (by repeat (first | (with_reducible first | exact HB.out | apply below_alloc | apply pw_below_drewN | apply below_drew1) | exact HB.out)))); have n3_ := Aside0.mk (below_step (by repeat (first | (with_reducible first | exact HB.out | apply below_alloc | apply pw_below_drewN | apply below_drew1) | exact HB.out)) hb); clear HO488; clear HO491; clear HB; have HO488 := n0_; have HO491 := n1_; have HO494 := n2_; have HB := n3_; clear n0_ n1_ n2_ n3_; (try clear hb); (try clear hb2); (try clear hk); (try clear hi); (try clear ho0)))
      (try simp only [Act.put, List.setIfInBounds_toArray, List.set_cons_zero, List.set_cons_succ])
      go_cut [41] (fun v41 wc => ∃ (kq : Nat) (x41_10 : Bool), v41 = .bool x41_10 ∧ Aside0 (abugidalaw08_BreaksAlone.j0 kq t483 t486 t489 t492 x41_10 = some r) ∧ Aside0 (kq ≤ k) ∧ Aside0 (Kd.R (Kd.int .i64) 3 wc w.heap.size (fun k_ => some k_ ≠ (v490 : Value).ownBlock ∧ some k_ ≠ (v493 : Value).ownBlock) v487 t486) ∧ Aside0 (Kd.R (Kd.int .i64) 3 wc w.heap.size (fun k_ => some k_ ≠ (v487 : Value).ownBlock ∧ some k_ ≠ (v493 : Value).ownBlock) v490 t489) ∧ Aside0 (Kd.R (Kd.int .i64) 3 wc w.heap.size (fun k_ => some k_ ≠ (v487 : Value).ownBlock ∧ some k_ ≠ (v490 : Value).ownBlock) v493 t492) ∧ Aside0 (Below w.heap.size w wc))
      case first =>
        have H := HC11.out
        clear HC11
        by_cases c18 : (t492.length : Int) = (wrap64 ((wrap64 ((t486.length : Int) + 1)) + (t489.length : Int)))
        · rw [if_pos c18] at H
          have c18b0 : ((t492.length : Int) == (wrap64 ((wrap64 ((t486.length : Int) + 1)) + (t489.length : Int)))) = true := beq_iff_eq.mpr c18
          have c18b1 : ((t492.length : Int) != (wrap64 ((wrap64 ((t486.length : Int) + 1)) + (t489.length : Int)))) = false := bne_eq_false_iff_eq.mpr c18
          clear c18
          (first | rw [c18b0] | (simp only [i64_w, i32_w]; rw [c18b0]) | skip)
          by_cases c19 : 0 ≤ (t486.length : Int)
          · rw [if_pos c19] at H
            have c19b0 : decide (0 ≤ (t486.length : Int)) = true := decide_eq_true c19
            have c19b1 : decide (0 ≤ t486.length) = true := decide_eq_true (by omega)
            clear c19
            by_cases c20 : (t486.length : Int) < (t492.length : Int)
            · rw [if_pos c20] at H
              have c20b0 : decide ((t486.length : Int) < (t492.length : Int)) = true := decide_eq_true c20
              have c20b1 : decide (t486.length < t492.length) = true := decide_eq_true (Int.ofNat_lt.mp c20)
              clear c20
              have H' := Aside0.mk H
              clear H
              obtain ⟨Ao21, co21, eo21⟩ := Kd.R_slice HO494.out
              subst eo21
              obtain ⟨Ao22, co22, eo22⟩ := Kd.R_slice HO488.out
              subst eo22
              obtain ⟨Ao23, co23, eo23⟩ := Kd.R_slice HO491.out
              subst eo23
              have p495 : 0 ≤ ((t486.length : Int) : Int) := of_decide_eq_true (by first | (with_reducible assumption) | assumption)
              have q495 : (t486.length : Int) < (t492.length : Int) := of_decide_eq_true (by first | (with_reducible assumption) | assumption)
              obtain ⟨ad495, e495, hx495_0⟩ := Kd.at_int (Kd.R_reads' HO494.out).2.2 (t486.length : Int) p495 q495
              cases e495
              (try simp only [Go.IntWalk.toNatUp] at hx495_0)
              replace p495 := eq_true p495
              replace q495 := eq_true q495
              go_wp2
              go_meet
              case rel => exact ⟨_, (((rd t492 (t486.length : Int)) != 2)), (by first | rfl | (simp; done) | (simp [*]; done)), H', ⟨by first | omega | exact Nat.le_refl _⟩, ⟨by (with_reducible repeat (first | apply Kd.R_alloc | apply Kd.R_drewN | apply Kd.R_drew)); exact Kd.R_mono HO488.out (fun _ hk => ⟨hk.1.2, hk.2⟩)⟩, ⟨by (with_reducible repeat (first | apply Kd.R_alloc | apply Kd.R_drewN | apply Kd.R_drew)); exact Kd.R_mono HO491.out (fun _ hk => ⟨hk.1.2, hk.2⟩)⟩, ⟨by (with_reducible repeat (first | apply Kd.R_alloc | apply Kd.R_drewN | apply Kd.R_drew)); exact Kd.R_mono HO494.out (fun _ hk => ⟨hk.1.2, hk.2⟩)⟩, ⟨by repeat (first | (with_reducible first | exact HB.out | apply below_alloc | apply pw_below_drewN | apply below_drew1) | exact HB.out)⟩⟩
            · rw [if_neg c20] at H
              exact absurd H (by simp)
          · rw [if_neg c19] at H
            exact absurd H (by simp)
        · rw [if_neg c18] at H
          have c18b0 : ((t492.length : Int) == (wrap64 ((wrap64 ((t486.length : Int) + 1)) + (t489.length : Int)))) = false := beq_eq_false_iff_ne.mpr c18
          have c18b1 : ((t492.length : Int) != (wrap64 ((wrap64 ((t486.length : Int) + 1)) + (t489.length : Int)))) = true := bne_iff_ne.mpr c18
          (first | rw [c18b0] | (simp only [i64_w, i32_w]; rw [c18b0]) | skip)
          have H' := Aside0.mk H
          clear H
          obtain ⟨Ao24, co24, eo24⟩ := Kd.R_slice HO494.out
          subst eo24
          obtain ⟨Ao25, co25, eo25⟩ := Kd.R_slice HO488.out
          subst eo25
          obtain ⟨Ao26, co26, eo26⟩ := Kd.R_slice HO491.out
          subst eo26
          go_wp2
          go_meet
          case rel => exact ⟨_, (true), (by first | rfl | (simp; done) | (simp [*]; done)), H', ⟨by first | omega | exact Nat.le_refl _⟩, ⟨by (with_reducible repeat (first | apply Kd.R_alloc | apply Kd.R_drewN | apply Kd.R_drew)); exact Kd.R_mono HO488.out (fun _ hk => ⟨hk.1.2, hk.2⟩)⟩, ⟨by (with_reducible repeat (first | apply Kd.R_alloc | apply Kd.R_drewN | apply Kd.R_drew)); exact Kd.R_mono HO491.out (fun _ hk => ⟨hk.1.2, hk.2⟩)⟩, ⟨by (with_reducible repeat (first | apply Kd.R_alloc | apply Kd.R_drewN | apply Kd.R_drew)); exact Kd.R_mono HO494.out (fun _ hk => ⟨hk.1.2, hk.2⟩)⟩, ⟨by repeat (first | (with_reducible first | exact HB.out | apply below_alloc | apply pw_below_drewN | apply below_drew1) | exact HB.out)⟩⟩
      case rest =>
        clear HC11
        try clear c1
        try clear c2
        try clear p2
        try clear p4
        try clear q4
        try clear hx4
        try clear p6
        try clear c8
        try clear c8b0
        try clear c8b1
        try clear c8b2
        try clear c9
        try clear c9b0
        try clear c9b1
        try clear c9b2
        try clear c10
        try clear c12
        try clear c18
        try clear c18b0
        try clear c18b1
        try clear c19
        try clear c19b0
        try clear c19b1
        try clear c20
        try clear c20b0
        try clear c20b1
        try clear hx495_0
        try clear p495
        try clear q495
        obtain ⟨kq, x41_10, rfl, HA, HJ10, HO_8, HO_9, HO_10, HB⟩ := hcut
        cases kq with
        | zero => exact absurd HA.out (by simp [abugidalaw08_BreaksAlone.j0])
        | succ kj10 =>
          have H := HA.out
          clear HA
          simp only [abugidalaw08_BreaksAlone.j0] at H
          by_cases c27 : x41_10 = true
          · subst c27
            have H1 : (some false) = some r := by rw [if_pos rfl] at H; exact H
            clear H
            have H := H1
            clear H1
            obtain rfl := Option.some.inj H
            go_wp2
            go_ret
            exact ⟨by first | rfl | (simp [errW_none, errW_some] <;> rfl) | (simp [*, errW_none, errW_some] <;> rfl), by repeat (first | (with_reducible first | exact HB.out | apply below_alloc | apply pw_below_drewN | apply below_drew1) | exact HB.out)⟩
          · replace c27 := Bool.eq_false_iff.mpr c27
            subst c27
            have H1 : (if t483 = true then (if 0 ≤ (t486.length : Int) then (if (t486.length : Int) ≤ (t492.length : Int) then ((abugidalaw08_is.f kj10 (t492.take ((t486.length : Int) : Int).toNat) t486).bind fun t500 => (if t500 = true then (if 0 ≤ (wrap64 ((t486.length : Int) + 1)) then (if (wrap64 ((t486.length : Int) + 1)) ≤ (t492.length : Int) then ((abugidalaw08_is.f kj10 (t492.drop ((wrap64 ((t486.length : Int) + 1)) : Int).toNat) t489).bind fun t505 => (some t505)) else (none)) else (none)) else (some false))) else (none)) else (none)) else (some false)) = some r := by rw [if_neg (show ¬ (false = true) by decide)] at H; exact H
            clear H
            have H := H1
            clear H1
            by_cases c28 : t483 = true
            · subst c28
              have H1 : (if 0 ≤ (t486.length : Int) then (if (t486.length : Int) ≤ (t492.length : Int) then ((abugidalaw08_is.f kj10 (t492.take ((t486.length : Int) : Int).toNat) t486).bind fun t500 => (if t500 = true then (if 0 ≤ (wrap64 ((t486.length : Int) + 1)) then (if (wrap64 ((t486.length : Int) + 1)) ≤ (t492.length : Int) then ((abugidalaw08_is.f kj10 (t492.drop ((wrap64 ((t486.length : Int) + 1)) : Int).toNat) t489).bind fun t505 => (some t505)) else (none)) else (none)) else (some false))) else (none)) else (none)) = some r := by rw [if_pos rfl] at H; exact H
              clear H
              have H := H1
              clear H1
              by_cases c29 : 0 ≤ (t486.length : Int)
              · rw [if_pos c29] at H
                have c29b0 := eq_true c29
                have c29b1 : decide (0 ≤ (t486.length : Int)) = true := decide_eq_true c29
                clear c29
                by_cases c30 : (t486.length : Int) ≤ (t492.length : Int)
                · rw [if_pos c30] at H
                  have c30b0 := eq_true c30
                  have c30b1 : decide ((t486.length : Int) ≤ (t492.length : Int)) = true := decide_eq_true c30
                  clear c30
                  obtain ⟨y496, hy496⟩ : ∃ y_ : List Int, y_ = (t492.take ((t486.length : Int) : Int).toNat) := ⟨_, rfl⟩
                  replace H : ((abugidalaw08_is.f kj10 y496 t486).bind fun t500 => (if t500 = true then (if 0 ≤ (wrap64 ((t486.length : Int) + 1)) then (if (wrap64 ((t486.length : Int) + 1)) ≤ (t492.length : Int) then ((abugidalaw08_is.f kj10 (t492.drop ((wrap64 ((t486.length : Int) + 1)) : Int).toNat) t489).bind fun t505 => (some t505)) else (none)) else (none)) else (some false))) = some r := by first | (rw [hy496]; with_reducible exact H) | (have H2_ := (Option.bind_some _ _).symm.trans H; rw [hy496]; with_reducible exact H2_) | (have H2_ := (Option.bind_some _ _).symm.trans H; with_reducible exact H2_) | with_reducible exact H | (rw [hy496]; exact H) | exact H
                  have Ny496 := Aside0.mk hy496
                  clear hy496
                  replace H := Option.bind_eq_some_iff.mp H
                  obtain ⟨t500, A310, H⟩ := H
                  replace H : (if t500 = true then (if 0 ≤ (wrap64 ((t486.length : Int) + 1)) then (if (wrap64 ((t486.length : Int) + 1)) ≤ (t492.length : Int) then ((abugidalaw08_is.f kj10 (t492.drop ((wrap64 ((t486.length : Int) + 1)) : Int).toNat) t489).bind fun t505 => (some t505)) else (none)) else (none)) else (some false)) = some r := H
                  have A31 := Aside0.mk A310
                  clear A310
                  by_cases c32 : t500 = true
                  · subst c32
                    have H1 : (if 0 ≤ (wrap64 ((t486.length : Int) + 1)) then (if (wrap64 ((t486.length : Int) + 1)) ≤ (t492.length : Int) then ((abugidalaw08_is.f kj10 (t492.drop ((wrap64 ((t486.length : Int) + 1)) : Int).toNat) t489).bind fun t505 => (some t505)) else (none)) else (none)) = some r := by rw [if_pos rfl] at H; exact H
                    clear H
                    have H := H1
                    clear H1
                    obtain ⟨ji33, hji33⟩ : ∃ j_ : Int, (wrap64 ((t486.length : Int) + 1)) = j_ := ⟨_, rfl⟩
                    replace H : (if 0 ≤ (ji33) then (if (ji33) ≤ (t492.length : Int) then ((abugidalaw08_is.f kj10 (t492.drop ((ji33) : Int).toNat) t489).bind fun t505 => (some t505)) else (none)) else (none)) = some r := by first | (rw [hji33] at H; exact H) | (simp only [hji33] at H ⊢; exact H)
                    (try rw [hji33] at A31)
                    have hji33w : (IntKind.i64.wrap ((t486.length : Int) + 1)) = ji33 := (i64_w _).trans hji33
                    by_cases c34 : 0 ≤ (ji33)
                    · rw [if_pos c34] at H
                      have c34b0 := eq_true c34
                      have c34b1 : decide (0 ≤ (ji33)) = true := decide_eq_true c34
                      clear c34
                      by_cases c35 : (ji33) ≤ (t492.length : Int)
                      · rw [if_pos c35] at H
                        have c35b0 := eq_true c35
                        have c35b1 : decide ((ji33) ≤ (t492.length : Int)) = true := decide_eq_true c35
                        clear c35
                        obtain ⟨y501, hy501⟩ : ∃ y_ : List Int, y_ = (t492.drop ((ji33) : Int).toNat) := ⟨_, rfl⟩
                        replace H : ((abugidalaw08_is.f kj10 y501 t489).bind fun t505 => (some t505)) = some r := by first | (rw [hy501]; with_reducible exact H) | (have H2_ := (Option.bind_some _ _).symm.trans H; rw [hy501]; with_reducible exact H2_) | (have H2_ := (Option.bind_some _ _).symm.trans H; with_reducible exact H2_) | with_reducible exact H | (rw [hy501]; exact H) | exact H
                        have Ny501 := Aside0.mk hy501
                        clear hy501
                        replace H := Option.bind_eq_some_iff.mp H
                        obtain ⟨t505, A360, H⟩ := H
                        replace H : (some t505) = some r := H
                        have A36 := Aside0.mk A360
                        clear A360
                        obtain rfl := Option.some.inj H
                        obtain ⟨Ao37, co37, eo37⟩ := Kd.R_slice HO_8.out
                        subst eo37
                        obtain ⟨Ao39, co39, eo39⟩ := Kd.R_slice HO_10.out
                        subst eo39
                        have q38 : ((t486.length : Int) : Int) ≤ ((t492.length : Int) : Int) := of_decide_eq_true (by first | (with_reducible assumption) | assumption)
                        obtain ⟨i038, hi038, _, hsz38, _⟩ := info_parts info3
                        have hroom38 : t492.length ≤ co39 := (Kd.R_reads' HO_10.out).2.1
                        have hC38 : Kd.C (Kd.int .i64) _ Ao39 t492.length t492 := (Kd.R_reads' HO_10.out).2.2
                        have hcut38 := cut_to (P := Try.prog) 22 3 .i64 Try.underlying22 hi038 Ao39 t492.length co39 (t486.length : Int) (of_decide_eq_true (by first | (with_reducible assumption) | assumption)) q38 hroom38
                        have hr38 := Kd.C_take (m := ((t486.length : Int) : Int).toNat) hC38 (by omega)
                        have hy38 : y496.length = ((t486.length : Int) : Int).toNat := (by rw [Ny496.out, List.length_take]; omega)
                        rw [← Ny496.out] at hr38
                        rw [← hy38] at hcut38
                        have HR499 := Aside0.mk hr38
                        have HC499 := Aside0.mk (show y496.length ≤ co39 from by omega)
                        clear hr38 hC38 hroom38 hi038 hsz38
                        have KY38 := Aside0.mk hy38
                        clear hy38
                        have KL38 := Aside0.mk (show ((t486.length : Int) : Int).toNat ≤ t492.length from by omega)
                        replace q38 := eq_true q38
                        go_wp2_with (first | (go_at_call 11; (with_reducible refine (abugidalaw08_is.calls kj10 _ _ y496 _ _ t486 true _ ?side1 ?side2 ?side3 ?side4 A31.out).mono ?_); (case side1 => repeat (first | exact (by repeat (first | (with_reducible exact HR499.out) | (with_reducible refine Kd.C_alloc ?_ _) | (with_reducible refine Kd.C_drewN ?_ _) | (with_reducible refine Kd.C_drew ?_) | exact HR499.out)) | (with_reducible refine Kd.C_alloc ?_ _) | (with_reducible refine Kd.C_drewN ?_ _) | (with_reducible refine Kd.C_drew ?_))); (case side2 => exact HC499.out); (case side3 => repeat (first | exact (Kd.R_reads' HO_8.out).2.2 | (with_reducible refine Kd.C_alloc ?_ _) | (with_reducible refine Kd.C_drewN ?_ _) | (with_reducible refine Kd.C_drew ?_))); (case side4 => exact (Kd.R_reads' HO_8.out).2.1); rintro e w' ⟨rfl, ⟨nd, rfl⟩⟩; have q40 : ((ji33) : Int) ≤ ((t492.length : Int) : Int) := of_decide_eq_true (by first | (with_reducible assumption) | assumption); obtain ⟨i040, hi040, _, hsz40, _⟩ := info_parts info3; have hroom40 : t492.length ≤ co39 := (Kd.R_reads' HO_10.out).2.1; have hC40 : Kd.C (Kd.int .i64) _ Ao39 t492.length t492 := (Kd.R_reads' HO_10.out).2.2; have q040 : (0 : Int) ≤ ((ji33) : Int) := of_decide_eq_true (by first | (with_reducible assumption) | assumption); have hcut40 := cut_from (P := Try.prog) 22 3 .i64 Try.underlying22 hi040 1 hsz40 Ao39 t492.length co39 (ji33) q040 q40; have hr40 := Kd.C_drop (m := ((ji33) : Int).toNat) (c := co39) hC40 (by omega) hroom40; obtain ⟨A40, hA40⟩ : ∃ A1, A1 = (if co39 = ((ji33) : Int).toNat then Ao39 else (Ao39 : Option Addr).map (·.add (((ji33) : Int).toNat * 1))) := ⟨_, rfl⟩; obtain ⟨c40, hc40⟩ : ∃ c1, c1 = co39 - ((ji33) : Int).toNat := ⟨_, rfl⟩; have hy40 : y501.length = t492.length - ((ji33) : Int).toNat := (by rw [Ny501.out, List.length_drop] <;> omega); rw [show (t492).drop ((ji33) : Int).toNat = y501 from Ny501.out.symm] at hr40; replace hr40 : Kd.C (Kd.int .i64) _ A40 y501.length y501 := (by rw [hA40]; exact hr40); rw [← hy40, ← hA40, ← hc40] at hcut40; have HR504 := Aside0.mk hr40; have HC504 := Aside0.mk (show y501.length ≤ c40 from by rw [hy40, hc40]; exact Nat.sub_le_sub_right hroom40 _); clear hr40 hC40 hroom40 hi040 hsz40 hc40; have KY40 := Aside0.mk hy40; have KA40 := Aside0.mk hA40; clear hy40 hA40; have KL40 := Aside0.mk (show ((ji33) : Int).toNat ≤ t492.length from by omega); replace q40 := eq_true q40; obtain ⟨Ao41, co41, eo41⟩ := Kd.R_slice HO_9.out; subst eo41) | (go_at_call 11; (with_reducible refine (abugidalaw08_is.calls kj10 _ _ y501 _ _ t489 t505 _ ?side1 ?side2 ?side3 ?side4 A36.out).mono ?_); (case side1 => repeat (first | exact (by repeat (first | (with_reducible exact HR504.out) | (with_reducible refine Kd.C_alloc ?_ _) | (with_reducible refine Kd.C_drewN ?_ _) | (with_reducible refine Kd.C_drew ?_) | exact HR504.out)) | (with_reducible refine Kd.C_alloc ?_ _) | (with_reducible refine Kd.C_drewN ?_ _) | (with_reducible refine Kd.C_drew ?_))); (case side2 => exact HC504.out); (case side3 => repeat (first | exact (Kd.R_reads' HO_9.out).2.2 | (with_reducible refine Kd.C_alloc ?_ _) | (with_reducible refine Kd.C_drewN ?_ _) | (with_reducible refine Kd.C_drew ?_))); (case side4 => exact (Kd.R_reads' HO_9.out).2.1); rintro e w' ⟨rfl, ⟨nd, rfl⟩⟩))
                        go_ret
                        exact ⟨by first | rfl | (simp [errW_none, errW_some] <;> rfl) | (simp only [← hji33]; first | rfl | (simp [errW_none, errW_some] <;> rfl)) | (simp [*, errW_none, errW_some] <;> rfl), by repeat (first | (with_reducible first | exact HB.out | apply below_alloc | apply pw_below_drewN | apply below_drew1) | exact HB.out)⟩
                      · rw [if_neg c35] at H
                        exact absurd H (by simp)
                    · rw [if_neg c34] at H
                      exact absurd H (by simp)
                  · replace c32 := Bool.eq_false_iff.mpr c32
                    subst c32
                    have H1 : (some false) = some r := by rw [if_neg (show ¬ (false = true) by decide)] at H; exact H
                    clear H
                    have H := H1
                    clear H1
                    obtain rfl := Option.some.inj H
                    obtain ⟨Ao42, co42, eo42⟩ := Kd.R_slice HO_8.out
                    subst eo42
                    obtain ⟨Ao44, co44, eo44⟩ := Kd.R_slice HO_10.out
                    subst eo44
                    have q43 : ((t486.length : Int) : Int) ≤ ((t492.length : Int) : Int) := of_decide_eq_true (by first | (with_reducible assumption) | assumption)
                    obtain ⟨i043, hi043, _, hsz43, _⟩ := info_parts info3
                    have hroom43 : t492.length ≤ co44 := (Kd.R_reads' HO_10.out).2.1
                    have hC43 : Kd.C (Kd.int .i64) _ Ao44 t492.length t492 := (Kd.R_reads' HO_10.out).2.2
                    have hcut43 := cut_to (P := Try.prog) 22 3 .i64 Try.underlying22 hi043 Ao44 t492.length co44 (t486.length : Int) (of_decide_eq_true (by first | (with_reducible assumption) | assumption)) q43 hroom43
                    have hr43 := Kd.C_take (m := ((t486.length : Int) : Int).toNat) hC43 (by omega)
                    have hy43 : y496.length = ((t486.length : Int) : Int).toNat := (by rw [Ny496.out, List.length_take]; omega)
                    rw [← Ny496.out] at hr43
                    rw [← hy43] at hcut43
                    have HR499 := Aside0.mk hr43
                    have HC499 := Aside0.mk (show y496.length ≤ co44 from by omega)
                    clear hr43 hC43 hroom43 hi043 hsz43
                    have KY43 := Aside0.mk hy43
                    clear hy43
                    have KL43 := Aside0.mk (show ((t486.length : Int) : Int).toNat ≤ t492.length from by omega)
                    replace q43 := eq_true q43
                    go_wp2_with (first | (go_at_call 11; (with_reducible refine (abugidalaw08_is.calls kj10 _ _ y496 _ _ t486 false _ ?side1 ?side2 ?side3 ?side4 A31.out).mono ?_); (case side1 => repeat (first | exact (by repeat (first | (with_reducible exact HR499.out) | (with_reducible refine Kd.C_alloc ?_ _) | (with_reducible refine Kd.C_drewN ?_ _) | (with_reducible refine Kd.C_drew ?_) | exact HR499.out)) | (with_reducible refine Kd.C_alloc ?_ _) | (with_reducible refine Kd.C_drewN ?_ _) | (with_reducible refine Kd.C_drew ?_))); (case side2 => exact HC499.out); (case side3 => repeat (first | exact (Kd.R_reads' HO_8.out).2.2 | (with_reducible refine Kd.C_alloc ?_ _) | (with_reducible refine Kd.C_drewN ?_ _) | (with_reducible refine Kd.C_drew ?_))); (case side4 => exact (Kd.R_reads' HO_8.out).2.1); rintro e w' ⟨rfl, ⟨nd, rfl⟩⟩))
                    go_ret
                    exact ⟨by first | rfl | (simp [errW_none, errW_some] <;> rfl) | (simp [*, errW_none, errW_some] <;> rfl), by repeat (first | (with_reducible first | exact HB.out | apply below_alloc | apply pw_below_drewN | apply below_drew1) | exact HB.out)⟩
                · rw [if_neg c30] at H
                  exact absurd H (by simp)
              · rw [if_neg c29] at H
                exact absurd H (by simp)
            · replace c28 := Bool.eq_false_iff.mpr c28
              subst c28
              have H1 : (some false) = some r := by rw [if_neg (show ¬ (false = true) by decide)] at H; exact H
              clear H
              have H := H1
              clear H1
              obtain rfl := Option.some.inj H
              go_wp2
              go_ret
              exact ⟨by first | rfl | (simp [errW_none, errW_some] <;> rfl) | (simp [*, errW_none, errW_some] <;> rfl), by repeat (first | (with_reducible first | exact HB.out | apply below_alloc | apply pw_below_drewN | apply below_drew1) | exact HB.out)⟩
    · rw [if_neg c9] at H
      exact absurd H (by simp)
  · rw [if_neg c8] at H
    exact absurd H (by simp)

/-- THE ONE PURE STATEMENT of abugidalaw08_BreaksAlone: yours. -/
def abugidalaw08_BreaksAlone.Pure : Prop := ∀ (l0 : List Int) (l1 : List Int), l0.length ≤ maxLen → l0.length * 8 ≤ 140737488351232 → (∀ x ∈ l0, (Lit.int .i64 x).wf = true) → l1.length ≤ maxLen → l1.length * 8 ≤ 140737488351232 → (∀ x ∈ l1, (Lit.int .i64 x).wf = true) → ∃ k, abugidalaw08_BreaksAlone.f k l0 l1 = some true
theorem abugidalaw08_BreaksAlone.walk (P : abugidalaw08_BreaksAlone.Pure) (a0 : Option Addr) (len0 cap0 : Nat) (z0 : List Int) (a1 : Option Addr) (len1 cap1 : Nat) (z1 : List Int) (w : World) (w0 : (a0 = none ∧ len0 = 0 ∧ cap0 = 0 ∧ z0 = []) ∨ ∃ x, a0 = some x ∧ len0 ≤ cap0 ∧ cap0 ≤ maxLen ∧ z0.length = cap0 ∧ (∀ i, i < z0.length → w.cell? (x.add i) = some (.int .i64 (z0.getD i 0))) ∧ ∀ n ∈ z0, (Lit.int .i64 n).wf = true) (y0 : len0 * 8 ≤ 140737488351232) (w1 : (a1 = none ∧ len1 = 0 ∧ cap1 = 0 ∧ z1 = []) ∨ ∃ x, a1 = some x ∧ len1 ≤ cap1 ∧ cap1 ≤ maxLen ∧ z1.length = cap1 ∧ (∀ i, i < z1.length → w.cell? (x.add i) = some (.int .i64 (z1.getD i 0))) ∧ ∀ n ∈ z1, (Lit.int .i64 n).wf = true) (y1 : len1 * 8 ≤ 140737488351232) :
    Calls Try.prog 8 #[.slice a0 len0 cap0, .slice a1 len1 cap1] w fun e w' => e = .returned (.bool true) ∧ Below w.heap.size w w' := by
  obtain ⟨l0, rfl, hr0, hm0, hw0, hc0⟩ := ReadsInt.ofRowC w0
  obtain ⟨l1, rfl, hr1, hm1, hw1, hc1⟩ := ReadsInt.ofRowC w1
  obtain ⟨k, h⟩ := P l0 l1 hm0 y0 hw0 hm1 y1 hw1
  refine (abugidalaw08_BreaksAlone.calls k _ _ l0 _ _ l1 true w (Kd.C_of_reads (d := (0 : Int)) (h1 := fun _ => rfl) hr0) hc0 (Kd.C_of_reads (d := (0 : Int)) (h1 := fun _ => rfl) hr1) hc1 h).mono ?_
  rintro e w' ⟨rfl, hd⟩
  exact ⟨rfl, hd⟩

end Go.Proofs.Ythllgpjjjegenaa.Q

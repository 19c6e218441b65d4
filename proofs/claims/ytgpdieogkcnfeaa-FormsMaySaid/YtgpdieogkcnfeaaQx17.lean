-- Written by wip/tools/myprint.py, a program of this session that drives the kit's print.py; not a text of print.sh.
import Derived.Test.YtgpdieogkcnfeaaQx0
import Derived.Test.YtgpdieogkcnfeaaQx8
import Derived.Test.YtgpdieogkcnfeaaQx9
import Derived.Test.YtgpdieogkcnfeaaQx16
namespace Go.Proofs.Ytgpdieogkcnfeaa.Q
open Go.RowKit Go.Proofs.YtgpdieogkcnfeaaW.PrintWords Go.Proofs.YtgpdieogkcnfeaaW.PrintLast Go.Proofs.YtgpdieogkcnfeaaW.PrintMore
attribute [local go_sem] max2_int min2_int max_two min_two max_three min_three max_four min_four   -- for this text's walks alone
set_option linter.unusedVariables false
set_option linter.unusedSimpArgs false

/-! ### abugidalaw17_FormsMay: function 5 -/
def abugidalaw17_FormsMay.f (k : Nat) (l0 : List Int) (a1 : Int) (a2 : Int) : Option (Bool) := (abugidalaw17_sanity.f k).bind fun t393 => (if 0 ≤ (mn (l0.length : Int) 100) then (if (mn (l0.length : Int) 100) ≤ (l0.length : Int) then (if t393 = true then ((forms_May.f k (l0.take ((mn (l0.length : Int) 100) : Int).toNat) a1 a2).bind fun t395 => ((abugidaref17_May.f k (l0.take ((mn (l0.length : Int) 100) : Int).toNat) a1 a2).bind fun t398 => ((abugidaref17_Same.f k t395 t398).bind fun t401 => (if t401 = true then ((forms_May.f k (l0.take ((mn (l0.length : Int) 100) : Int).toNat) (Int.tmod a1 12) a2).bind fun t402 => ((abugidaref17_May.f k (l0.take ((mn (l0.length : Int) 100) : Int).toNat) (Int.tmod a1 12) a2).bind fun t405 => ((abugidaref17_Same.f k t402 t405).bind fun t408 => (some t408)))) else (some false))))) else (some false)) else (none)) else (none))
theorem abugidalaw17_FormsMay.mono : ∀ a0 a1 a2 k, LeO (abugidalaw17_FormsMay.f k a0 a1 a2) (abugidalaw17_FormsMay.f (k + 1) a0 a1 a2) := by
  intro a0 a1 a2 k
  unfold abugidalaw17_FormsMay.f
  repeat' first
      | (with_reducible exact abugidalaw17_sanity.mono _)
      | (with_reducible exact abugidaref17_May.mono _ _ _ _)
      | (with_reducible exact abugidaref17_Same.mono _ _ _)
      | (with_reducible exact forms_May.mono _ _ _ _)
      | (with_reducible exact LeO.refl _)
      | (with_reducible exact LeO.none _)
      | (with_reducible refine LeO.ite ?_ ?_)
      | (with_reducible refine LeO.bind ?_ (fun _ => ?_))
      | exact abugidalaw17_sanity.mono _
      | exact abugidaref17_May.mono _ _ _ _
      | exact abugidaref17_Same.mono _ _ _
      | exact forms_May.mono _ _ _ _
      | exact LeO.none _
      | refine LeO.ite ?_ ?_
      | refine LeO.bind ?_ (fun _ => ?_)
set_option maxHeartbeats 8000000 in
set_option maxRecDepth 100000 in
theorem abugidalaw17_FormsMay.calls (k : Nat) (A0 : Option Addr) (c0 : Nat) (l0 : List Int) (a1 : Int) (a2 : Int) (r : Bool) (w : World) (hr0 : Kd.C (Kd.int .i64) w A0 l0.length l0) (hc0 : l0.length ≤ c0) (h : abugidalaw17_FormsMay.f k l0 a1 a2 = some r) :
    Calls Try.prog 5 #[.slice A0 l0.length c0, .int .i64 a1, .int .i64 a2] w fun e w' => e = .returned (.bool r) ∧ Below w.heap.size w w' := by
  have HR0 := Aside0.mk hr0
  have HC0 := Aside0.mk hc0
  clear hr0 hc0
  have HB := Aside0.mk (Below.refl w.heap.size w)
  have H : ((abugidalaw17_sanity.f k).bind fun t393 => (if 0 ≤ (mn (l0.length : Int) 100) then (if (mn (l0.length : Int) 100) ≤ (l0.length : Int) then (if t393 = true then ((forms_May.f k (l0.take ((mn (l0.length : Int) 100) : Int).toNat) a1 a2).bind fun t395 => ((abugidaref17_May.f k (l0.take ((mn (l0.length : Int) 100) : Int).toNat) a1 a2).bind fun t398 => ((abugidaref17_Same.f k t395 t398).bind fun t401 => (if t401 = true then ((forms_May.f k (l0.take ((mn (l0.length : Int) 100) : Int).toNat) (Int.tmod a1 12) a2).bind fun t402 => ((abugidaref17_May.f k (l0.take ((mn (l0.length : Int) 100) : Int).toNat) (Int.tmod a1 12) a2).bind fun t405 => ((abugidaref17_Same.f k t402 t405).bind fun t408 => (some t408)))) else (some false))))) else (some false)) else (none)) else (none))) = some r := h
  clear h
  replace H := Option.bind_eq_some_iff.mp H
  obtain ⟨t393, A40, H⟩ := H
  replace H : (if 0 ≤ (mn (l0.length : Int) 100) then (if (mn (l0.length : Int) 100) ≤ (l0.length : Int) then (if t393 = true then ((forms_May.f k (l0.take ((mn (l0.length : Int) 100) : Int).toNat) a1 a2).bind fun t395 => ((abugidaref17_May.f k (l0.take ((mn (l0.length : Int) 100) : Int).toNat) a1 a2).bind fun t398 => ((abugidaref17_Same.f k t395 t398).bind fun t401 => (if t401 = true then ((forms_May.f k (l0.take ((mn (l0.length : Int) 100) : Int).toNat) (Int.tmod a1 12) a2).bind fun t402 => ((abugidaref17_May.f k (l0.take ((mn (l0.length : Int) 100) : Int).toNat) (Int.tmod a1 12) a2).bind fun t405 => ((abugidaref17_Same.f k t402 t405).bind fun t408 => (some t408)))) else (some false))))) else (some false)) else (none)) else (none)) = some r := H
  have A4 := Aside0.mk A40
  clear A40
  obtain ⟨ji5, hji5⟩ : ∃ j_ : Int, (mn (l0.length : Int) 100) = j_ := ⟨_, rfl⟩
  replace H : (if 0 ≤ (ji5) then (if (ji5) ≤ (l0.length : Int) then (if t393 = true then ((forms_May.f k (l0.take ((ji5) : Int).toNat) a1 a2).bind fun t395 => ((abugidaref17_May.f k (l0.take ((ji5) : Int).toNat) a1 a2).bind fun t398 => ((abugidaref17_Same.f k t395 t398).bind fun t401 => (if t401 = true then ((forms_May.f k (l0.take ((ji5) : Int).toNat) (Int.tmod a1 12) a2).bind fun t402 => ((abugidaref17_May.f k (l0.take ((ji5) : Int).toNat) (Int.tmod a1 12) a2).bind fun t405 => ((abugidaref17_Same.f k t402 t405).bind fun t408 => (some t408)))) else (some false))))) else (some false)) else (none)) else (none)) = some r := by first | (rw [hji5] at H; exact H) | (simp only [hji5] at H ⊢; exact H)
  (try rw [hji5] at A4)
  (try (have hji5h : ji5 ≤ 100 := by (rw [← hji5]; unfold mn; (repeat' split) <;> omega)))
  (try (have hji5g : ji5 ≤ 64 := by omega))
  (try (have hji5l : 0 ≤ ji5 := by (rw [← hji5]; unfold mn; (repeat' split) <;> omega)))
  (try (have hji5m : 0 ≤ ji5 := by omega))
  have hji5_ : (if 100 < (l0.length : Int) then 100 else (l0.length : Int)) = ji5 := hji5
  by_cases c6 : 0 ≤ (ji5)
  · rw [if_pos c6] at H
    have c6b0 := eq_true c6
    have c6b1 : decide (0 ≤ (ji5)) = true := decide_eq_true c6
    clear c6
    by_cases c7 : (ji5) ≤ (l0.length : Int)
    · rw [if_pos c7] at H
      have c7b0 := eq_true c7
      have c7b1 : decide ((ji5) ≤ (l0.length : Int)) = true := decide_eq_true c7
      clear c7
      by_cases c8 : t393 = true
      · subst c8
        have H1 : ((forms_May.f k (l0.take ((ji5) : Int).toNat) a1 a2).bind fun t395 => ((abugidaref17_May.f k (l0.take ((ji5) : Int).toNat) a1 a2).bind fun t398 => ((abugidaref17_Same.f k t395 t398).bind fun t401 => (if t401 = true then ((forms_May.f k (l0.take ((ji5) : Int).toNat) (Int.tmod a1 12) a2).bind fun t402 => ((abugidaref17_May.f k (l0.take ((ji5) : Int).toNat) (Int.tmod a1 12) a2).bind fun t405 => ((abugidaref17_Same.f k t402 t405).bind fun t408 => (some t408)))) else (some false))))) = some r := by rw [if_pos rfl] at H; exact H
        clear H
        have H := H1
        clear H1
        replace H := Option.bind_eq_some_iff.mp H
        obtain ⟨t395, A90, H⟩ := H
        replace H : ((abugidaref17_May.f k (l0.take ((ji5) : Int).toNat) a1 a2).bind fun t398 => ((abugidaref17_Same.f k t395 t398).bind fun t401 => (if t401 = true then ((forms_May.f k (l0.take ((ji5) : Int).toNat) (Int.tmod a1 12) a2).bind fun t402 => ((abugidaref17_May.f k (l0.take ((ji5) : Int).toNat) (Int.tmod a1 12) a2).bind fun t405 => ((abugidaref17_Same.f k t402 t405).bind fun t408 => (some t408)))) else (some false)))) = some r := H
        have A9 := Aside0.mk A90
        clear A90
        replace H := Option.bind_eq_some_iff.mp H
        obtain ⟨t398, A100, H⟩ := H
        replace H : ((abugidaref17_Same.f k t395 t398).bind fun t401 => (if t401 = true then ((forms_May.f k (l0.take ((ji5) : Int).toNat) (Int.tmod a1 12) a2).bind fun t402 => ((abugidaref17_May.f k (l0.take ((ji5) : Int).toNat) (Int.tmod a1 12) a2).bind fun t405 => ((abugidaref17_Same.f k t402 t405).bind fun t408 => (some t408)))) else (some false))) = some r := H
        have A10 := Aside0.mk A100
        clear A100
        replace H := Option.bind_eq_some_iff.mp H
        obtain ⟨t401, A110, H⟩ := H
        replace H : (if t401 = true then ((forms_May.f k (l0.take ((ji5) : Int).toNat) (Int.tmod a1 12) a2).bind fun t402 => ((abugidaref17_May.f k (l0.take ((ji5) : Int).toNat) (Int.tmod a1 12) a2).bind fun t405 => ((abugidaref17_Same.f k t402 t405).bind fun t408 => (some t408)))) else (some false)) = some r := H
        have A11 := Aside0.mk A110
        clear A110
        by_cases c12 : t401 = true
        · subst c12
          have H1 : ((forms_May.f k (l0.take ((ji5) : Int).toNat) (Int.tmod a1 12) a2).bind fun t402 => ((abugidaref17_May.f k (l0.take ((ji5) : Int).toNat) (Int.tmod a1 12) a2).bind fun t405 => ((abugidaref17_Same.f k t402 t405).bind fun t408 => (some t408)))) = some r := by rw [if_pos rfl] at H; exact H
          clear H
          have H := H1
          clear H1
          replace H := Option.bind_eq_some_iff.mp H
          obtain ⟨t402, A130, H⟩ := H
          replace H : ((abugidaref17_May.f k (l0.take ((ji5) : Int).toNat) (Int.tmod a1 12) a2).bind fun t405 => ((abugidaref17_Same.f k t402 t405).bind fun t408 => (some t408))) = some r := H
          have A13 := Aside0.mk A130
          clear A130
          replace H := Option.bind_eq_some_iff.mp H
          obtain ⟨t405, A140, H⟩ := H
          replace H : ((abugidaref17_Same.f k t402 t405).bind fun t408 => (some t408)) = some r := H
          have A14 := Aside0.mk A140
          clear A140
          replace H := Option.bind_eq_some_iff.mp H
          obtain ⟨t408, A150, H⟩ := H
          replace H : (some t408) = some r := H
          have A15 := Aside0.mk A150
          clear A150
          obtain rfl := Option.some.inj H
          have HLEN : Aside0 (((ji5) : Int).toNat = (l0.take ((ji5) : Int).toNat).length) := ⟨by have h1_ := of_eq_true c7b0; have h0_ := of_eq_true c6b0; rw [List.length_take]; omega⟩
          go_enter Try.func5, Try.ntmps5
          go_wp2_with (first | ((with_reducible refine gate_callee (f := 9) rfl ?_); refine goesL_ (some 9) rfl rfl Try.func9 (by kernel_rfl) rfl #[] rfl (by (try simp only [List.map_toArray, List.map_cons, List.map_nil]); first | done | rfl | (simp only [List.length_drop, List.length_take]; rfl)) ?_; (with_reducible refine (abugidalaw17_sanity.calls k  true _ A4.out).mono ?_); rintro e w16 ⟨rfl, hb⟩; refine ⟨_, rfl, ?_⟩; have n0_ := Aside0.mk (below_step (by repeat (first | (with_reducible first | exact HB.out | apply below_alloc | apply pw_below_drewN | apply below_drew1) | exact HB.out)) hb); clear HB; have HB := n0_; clear n0_; (try clear hb); (try clear hb2); (try clear hk); (try clear hi); obtain ⟨i017, hi017, _, hsz17, _⟩ := info_parts info3; obtain ⟨hcut17, hA17, hC17⟩ := print_take_of (P := Try.prog) (Value.int .i64) 0 22 3 .i64 Try.underlying22 hi017 hsz17 A0 c0 l0 (ji5) (of_decide_eq_true (by first | (with_reducible assumption) | assumption)) (of_decide_eq_true (by first | (with_reducible assumption) | assumption)) HC0.out; have HR394 := Aside0.mk (Kd.C_of_reads (h1 := fun _ => rfl) (hA17 _ (Kd.reads_of_C HR0.out))); have HC394 := Aside0.mk hC17; clear hA17 hC17 hi017 hsz17) | (go_at_call 18; (try rw [HLEN.out]); (with_reducible refine (forms_May.calls k _ _ (l0.take ((ji5) : Int).toNat) a1 a2 t395 _ ?side1 ?side2 A9.out).mono ?_); (case side1 => repeat (first | exact (Kd.C_below HR394.out HB.out) | (with_reducible refine Kd.C_alloc ?_ _) | (with_reducible refine Kd.C_drewN ?_ _) | (with_reducible refine Kd.C_drew ?_))); (case side2 => exact HC394.out); rintro e w18 ⟨v396, rfl, ho0, hb⟩; have n0_ := Aside0.mk (Kd.R_lower ho0 (below_size (by repeat (first | (with_reducible first | exact HB.out | apply below_alloc | apply pw_below_drewN | apply below_drew1) | exact HB.out)))); have n1_ := Aside0.mk (below_step (by repeat (first | (with_reducible first | exact HB.out | apply below_alloc | apply pw_below_drewN | apply below_drew1) | exact HB.out)) hb); clear HB; have HO397 := n0_; have HB := n1_; clear n0_ n1_; (try clear hb); (try clear hb2); (try clear hk); (try clear hi); (try clear ho0)) | (go_at_call 19; (try rw [HLEN.out]); (with_reducible refine (abugidaref17_May.calls k _ _ (l0.take ((ji5) : Int).toNat) a1 a2 t398 _ ?side1 ?side2 A10.out).mono ?_); (case side1 => repeat (first | exact (Kd.C_below HR394.out HB.out) | (with_reducible refine Kd.C_alloc ?_ _) | (with_reducible refine Kd.C_drewN ?_ _) | (with_reducible refine Kd.C_drew ?_))); (case side2 => exact HC394.out); rintro e w19 ⟨v399, rfl, ho0, hb⟩; have n0_ := Aside0.mk (Kd.R_elder' (by (with_reducible repeat (first | apply Kd.R_alloc | apply Kd.R_drewN | apply Kd.R_drew)); exact HO397.out) (Kd.R_base ho0) hb); have n1_ := Aside0.mk (Kd.R_lower (Kd.R_new' ho0 (Kd.R_lt (by (with_reducible repeat (first | apply Kd.R_alloc | apply Kd.R_drewN | apply Kd.R_drew)); exact HO397.out))) (below_size (by repeat (first | (with_reducible first | exact HB.out | apply below_alloc | apply pw_below_drewN | apply below_drew1) | exact HB.out)))); have n2_ := Aside0.mk (below_step (by repeat (first | (with_reducible first | exact HB.out | apply below_alloc | apply pw_below_drewN | apply below_drew1) | exact HB.out)) hb); clear HO397; clear HB; have HO397 := n0_; have HO400 := n1_; have HB := n2_; clear n0_ n1_ n2_; (try clear hb); (try clear hb2); (try clear hk); (try clear hi); (try clear ho0); obtain ⟨Ao20, co20, eo20⟩ := Kd.R_slice HO397.out; subst eo20; obtain ⟨Ao21, co21, eo21⟩ := Kd.R_slice HO400.out; subst eo21) | (go_at_call 17; (try rw [HLEN.out]); (with_reducible refine (abugidaref17_Same.calls k _ _ t395 _ _ t398 true _ ?side1 ?side2 ?side3 ?side4 A11.out).mono ?_); (case side1 => repeat (first | exact (Kd.R_reads' HO397.out).2.2 | (with_reducible refine Kd.C_alloc ?_ _) | (with_reducible refine Kd.C_drewN ?_ _) | (with_reducible refine Kd.C_drew ?_))); (case side2 => exact (Kd.R_reads' HO397.out).2.1); (case side3 => repeat (first | exact (Kd.R_reads' HO400.out).2.2 | (with_reducible refine Kd.C_alloc ?_ _) | (with_reducible refine Kd.C_drewN ?_ _) | (with_reducible refine Kd.C_drew ?_))); (case side4 => exact (Kd.R_reads' HO400.out).2.1); rintro e w' ⟨rfl, ⟨nd, rfl⟩⟩) | (go_at_call 18; (try rw [HLEN.out]); (with_reducible refine (forms_May.calls k _ _ (l0.take ((ji5) : Int).toNat) (Int.tmod a1 12) a2 t402 _ ?side1 ?side2 A13.out).mono ?_); (case side1 => repeat (first | exact (Kd.C_below HR394.out (by repeat (first | (with_reducible first | exact HB.out | apply below_alloc | apply pw_below_drewN | apply below_drew1) | exact HB.out))) | (with_reducible refine Kd.C_alloc ?_ _) | (with_reducible refine Kd.C_drewN ?_ _) | (with_reducible refine Kd.C_drew ?_))); (case side2 => exact HC394.out); rintro e w22 ⟨v403, rfl, ho0, hb⟩; have n0_ := Aside0.mk (Kd.R_elder' (by (with_reducible repeat (first | apply Kd.R_alloc | apply Kd.R_drewN | apply Kd.R_drew)); exact HO397.out) (Kd.R_base ho0) hb); have n1_ := Aside0.mk (Kd.R_elder' (by (with_reducible repeat (first | apply Kd.R_alloc | apply Kd.R_drewN | apply Kd.R_drew)); exact HO400.out) (Kd.R_base ho0) hb); have n2_ := Aside0.mk (Kd.R_lower (Kd.R_new' (Kd.R_new' ho0 (Kd.R_lt (by (with_reducible repeat (first | apply Kd.R_alloc | apply Kd.R_drewN | apply Kd.R_drew)); exact HO397.out))) (Kd.R_lt (by (with_reducible repeat (first | apply Kd.R_alloc | apply Kd.R_drewN | apply Kd.R_drew)); exact HO400.out))) (below_size (by repeat (first | (with_reducible first | exact HB.out | apply below_alloc | apply pw_below_drewN | apply below_drew1) | exact HB.out)))); have n3_ := Aside0.mk (below_step (by repeat (first | (with_reducible first | exact HB.out | apply below_alloc | apply pw_below_drewN | apply below_drew1) | exact HB.out)) hb); clear HO397; clear HO400; clear HB; have HO397 := n0_; have HO400 := n1_; have HO404 := n2_; have HB := n3_; clear n0_ n1_ n2_ n3_; (try clear hb); (try clear hb2); (try clear hk); (try clear hi); (try clear ho0)) | (go_at_call 19; (try rw [HLEN.out]); (with_reducible refine (abugidaref17_May.calls k _ _ (l0.take ((ji5) : Int).toNat) (Int.tmod a1 12) a2 t405 _ ?side1 ?side2 A14.out).mono ?_); (case side1 => repeat (first | exact (Kd.C_below HR394.out HB.out) | (with_reducible refine Kd.C_alloc ?_ _) | (with_reducible refine Kd.C_drewN ?_ _) | (with_reducible refine Kd.C_drew ?_))); (case side2 => exact HC394.out); rintro e w23 ⟨v406, rfl, ho0, hb⟩; have n0_ := Aside0.mk (Kd.R_elder' (by (with_reducible repeat (first | apply Kd.R_alloc | apply Kd.R_drewN | apply Kd.R_drew)); exact HO397.out) (Kd.R_base ho0) hb); have n1_ := Aside0.mk (Kd.R_elder' (by (with_reducible repeat (first | apply Kd.R_alloc | apply Kd.R_drewN | apply Kd.R_drew)); exact HO400.out) (Kd.R_base ho0) hb); have n2_ := Aside0.mk (Kd.R_elder' (by (with_reducible repeat (first | apply Kd.R_alloc | apply Kd.R_drewN | apply Kd.R_drew)); exact HO404.out) (Kd.R_base ho0) hb); have n3_ := Aside0.mk (Kd.R_lower (Kd.R_new' (Kd.R_new' (Kd.R_new' ho0 (Kd.R_lt (by (with_reducible repeat (first | apply Kd.R_alloc | apply Kd.R_drewN | apply Kd.R_drew)); exact HO397.out))) (Kd.R_lt (by (with_reducible repeat (first | apply Kd.R_alloc | apply Kd.R_drewN | apply Kd.R_drew)); exact HO400.out))) (Kd.R_lt (by (with_reducible repeat (first | apply Kd.R_alloc | apply Kd.R_drewN | apply Kd.R_drew)); exact HO404.out))) (below_size (by repeat (first | (with_reducible first | exact HB.out | apply below_alloc | apply pw_below_drewN | apply below_drew1) | exact HB.out)))); have n4_ := Aside0.mk (below_step (by repeat (first | (with_reducible first | exact HB.out | apply below_alloc | apply pw_below_drewN | apply below_drew1) | exact HB.out)) hb); clear HO397; clear HO400; clear HO404; clear HB; have HO397 := n0_; have HO400 := n1_; have HO404 := n2_; have HO407 := n3_; have HB := n4_; clear n0_ n1_ n2_ n3_ n4_; (try clear hb); (try clear hb2); (try clear hk); (try clear hi); (try clear ho0); obtain ⟨Ao24, co24, eo24⟩ := Kd.R_slice HO404.out; subst eo24; obtain ⟨Ao25, co25, eo25⟩ := Kd.R_slice HO407.out; subst eo25) | (go_at_call 17; (try rw [HLEN.out]); (with_reducible refine (abugidaref17_Same.calls k _ _ t402 _ _ t405 t408 _ ?side1 ?side2 ?side3 ?side4 A15.out).mono ?_); (case side1 => repeat (first | exact (Kd.R_reads' HO404.out).2.2 | (with_reducible refine Kd.C_alloc ?_ _) | (with_reducible refine Kd.C_drewN ?_ _) | (with_reducible refine Kd.C_drew ?_))); (case side2 => exact (Kd.R_reads' HO404.out).2.1); (case side3 => repeat (first | exact (Kd.R_reads' HO407.out).2.2 | (with_reducible refine Kd.C_alloc ?_ _) | (with_reducible refine Kd.C_drewN ?_ _) | (with_reducible refine Kd.C_drew ?_))); (case side4 => exact (Kd.R_reads' HO407.out).2.1); rintro e w' ⟨rfl, ⟨nd, rfl⟩⟩))
          go_ret
          exact ⟨by first | rfl | (simp [errW_none, errW_some] <;> rfl) | (simp only [← hji5]; first | rfl | (simp [errW_none, errW_some] <;> rfl)) | (simp [*, errW_none, errW_some] <;> rfl), by repeat (first | (with_reducible first | exact HB.out | apply below_alloc | apply pw_below_drewN | apply below_drew1) | exact HB.out)⟩
        · replace c12 := Bool.eq_false_iff.mpr c12
          subst c12
          have H1 : (some false) = some r := by rw [if_neg (show ¬ (false = true) by decide)] at H; exact H
          clear H
          have H := H1
          clear H1
          obtain rfl := Option.some.inj H
          have HLEN : Aside0 (((ji5) : Int).toNat = (l0.take ((ji5) : Int).toNat).length) := ⟨by have h1_ := of_eq_true c7b0; have h0_ := of_eq_true c6b0; rw [List.length_take]; omega⟩
          go_enter Try.func5, Try.ntmps5
          go_wp2_with (first | ((with_reducible refine gate_callee (f := 9) rfl ?_); refine goesL_ (some 9) rfl rfl Try.func9 (by kernel_rfl) rfl #[] rfl (by (try simp only [List.map_toArray, List.map_cons, List.map_nil]); first | done | rfl | (simp only [List.length_drop, List.length_take]; rfl)) ?_; (with_reducible refine (abugidalaw17_sanity.calls k  true _ A4.out).mono ?_); rintro e w26 ⟨rfl, hb⟩; refine ⟨_, rfl, ?_⟩; have n0_ := Aside0.mk (below_step (by repeat (first | (with_reducible first | exact HB.out | apply below_alloc | apply pw_below_drewN | apply below_drew1) | exact HB.out)) hb); clear HB; have HB := n0_; clear n0_; (try clear hb); (try clear hb2); (try clear hk); (try clear hi); obtain ⟨i027, hi027, _, hsz27, _⟩ := info_parts info3; obtain ⟨hcut27, hA27, hC27⟩ := print_take_of (P := Try.prog) (Value.int .i64) 0 22 3 .i64 Try.underlying22 hi027 hsz27 A0 c0 l0 (ji5) (of_decide_eq_true (by first | (with_reducible assumption) | assumption)) (of_decide_eq_true (by first | (with_reducible assumption) | assumption)) HC0.out; have HR394 := Aside0.mk (Kd.C_of_reads (h1 := fun _ => rfl) (hA27 _ (Kd.reads_of_C HR0.out))); have HC394 := Aside0.mk hC27; clear hA27 hC27 hi027 hsz27) | (go_at_call 18; (try rw [HLEN.out]); (with_reducible refine (forms_May.calls k _ _ (l0.take ((ji5) : Int).toNat) a1 a2 t395 _ ?side1 ?side2 A9.out).mono ?_); (case side1 => repeat (first | exact (Kd.C_below HR394.out HB.out) | (with_reducible refine Kd.C_alloc ?_ _) | (with_reducible refine Kd.C_drewN ?_ _) | (with_reducible refine Kd.C_drew ?_))); (case side2 => exact HC394.out); rintro e w28 ⟨v396, rfl, ho0, hb⟩; have n0_ := Aside0.mk (Kd.R_lower ho0 (below_size (by repeat (first | (with_reducible first | exact HB.out | apply below_alloc | apply pw_below_drewN | apply below_drew1) | exact HB.out)))); have n1_ := Aside0.mk (below_step (by repeat (first | (with_reducible first | exact HB.out | apply below_alloc | apply pw_below_drewN | apply below_drew1) | exact HB.out)) hb); clear HB; have HO397 := n0_; have HB := n1_; clear n0_ n1_; (try clear hb); (try clear hb2); (try clear hk); (try clear hi); (try clear ho0)) | (go_at_call 19; (try rw [HLEN.out]); (with_reducible refine (abugidaref17_May.calls k _ _ (l0.take ((ji5) : Int).toNat) a1 a2 t398 _ ?side1 ?side2 A10.out).mono ?_); (case side1 => repeat (first | exact (Kd.C_below HR394.out HB.out) | (with_reducible refine Kd.C_alloc ?_ _) | (with_reducible refine Kd.C_drewN ?_ _) | (with_reducible refine Kd.C_drew ?_))); (case side2 => exact HC394.out); rintro e w29 ⟨v399, rfl, ho0, hb⟩; have n0_ := Aside0.mk (Kd.R_elder' (by (with_reducible repeat (first | apply Kd.R_alloc | apply Kd.R_drewN | apply Kd.R_drew)); exact HO397.out) (Kd.R_base ho0) hb); have n1_ := Aside0.mk (Kd.R_lower (Kd.R_new' ho0 (Kd.R_lt (by (with_reducible repeat (first | apply Kd.R_alloc | apply Kd.R_drewN | apply Kd.R_drew)); exact HO397.out))) (below_size (by repeat (first | (with_reducible first | exact HB.out | apply below_alloc | apply pw_below_drewN | apply below_drew1) | exact HB.out)))); have n2_ := Aside0.mk (below_step (by repeat (first | (with_reducible first | exact HB.out | apply below_alloc | apply pw_below_drewN | apply below_drew1) | exact HB.out)) hb); clear HO397; clear HB; have HO397 := n0_; have HO400 := n1_; have HB := n2_; clear n0_ n1_ n2_; (try clear hb); (try clear hb2); (try clear hk); (try clear hi); (try clear ho0); obtain ⟨Ao30, co30, eo30⟩ := Kd.R_slice HO397.out; subst eo30; obtain ⟨Ao31, co31, eo31⟩ := Kd.R_slice HO400.out; subst eo31) | (go_at_call 17; (try rw [HLEN.out]); (with_reducible refine (abugidaref17_Same.calls k _ _ t395 _ _ t398 false _ ?side1 ?side2 ?side3 ?side4 A11.out).mono ?_); (case side1 => repeat (first | exact (Kd.R_reads' HO397.out).2.2 | (with_reducible refine Kd.C_alloc ?_ _) | (with_reducible refine Kd.C_drewN ?_ _) | (with_reducible refine Kd.C_drew ?_))); (case side2 => exact (Kd.R_reads' HO397.out).2.1); (case side3 => repeat (first | exact (Kd.R_reads' HO400.out).2.2 | (with_reducible refine Kd.C_alloc ?_ _) | (with_reducible refine Kd.C_drewN ?_ _) | (with_reducible refine Kd.C_drew ?_))); (case side4 => exact (Kd.R_reads' HO400.out).2.1); rintro e w' ⟨rfl, ⟨nd, rfl⟩⟩))
          go_ret
          exact ⟨by first | rfl | (simp [errW_none, errW_some] <;> rfl) | (simp only [← hji5]; first | rfl | (simp [errW_none, errW_some] <;> rfl)) | (simp [*, errW_none, errW_some] <;> rfl), by repeat (first | (with_reducible first | exact HB.out | apply below_alloc | apply pw_below_drewN | apply below_drew1) | exact HB.out)⟩
      · replace c8 := Bool.eq_false_iff.mpr c8
        subst c8
        have H1 : (some false) = some r := by rw [if_neg (show ¬ (false = true) by decide)] at H; exact H
        clear H
        have H := H1
        clear H1
        obtain rfl := Option.some.inj H
        have HLEN : Aside0 (((ji5) : Int).toNat = (l0.take ((ji5) : Int).toNat).length) := ⟨by have h1_ := of_eq_true c7b0; have h0_ := of_eq_true c6b0; rw [List.length_take]; omega⟩
        go_enter Try.func5, Try.ntmps5
        go_wp2_with (first | ((with_reducible refine gate_callee (f := 9) rfl ?_); refine goesL_ (some 9) rfl rfl Try.func9 (by kernel_rfl) rfl #[] rfl (by (try simp only [List.map_toArray, List.map_cons, List.map_nil]); first | done | rfl | (simp only [List.length_drop, List.length_take]; rfl)) ?_; (with_reducible refine (abugidalaw17_sanity.calls k  false _ A4.out).mono ?_); rintro e w32 ⟨rfl, hb⟩; refine ⟨_, rfl, ?_⟩; have n0_ := Aside0.mk (below_step (by repeat (first | (with_reducible first | exact HB.out | apply below_alloc | apply pw_below_drewN | apply below_drew1) | exact HB.out)) hb); clear HB; have HB := n0_; clear n0_; (try clear hb); (try clear hb2); (try clear hk); (try clear hi); obtain ⟨i033, hi033, _, hsz33, _⟩ := info_parts info3; obtain ⟨hcut33, hA33, hC33⟩ := print_take_of (P := Try.prog) (Value.int .i64) 0 22 3 .i64 Try.underlying22 hi033 hsz33 A0 c0 l0 (ji5) (of_decide_eq_true (by first | (with_reducible assumption) | assumption)) (of_decide_eq_true (by first | (with_reducible assumption) | assumption)) HC0.out; have HR394 := Aside0.mk (Kd.C_of_reads (h1 := fun _ => rfl) (hA33 _ (Kd.reads_of_C HR0.out))); have HC394 := Aside0.mk hC33; clear hA33 hC33 hi033 hsz33))
        go_ret
        exact ⟨by first | rfl | (simp [errW_none, errW_some] <;> rfl) | (simp only [← hji5]; first | rfl | (simp [errW_none, errW_some] <;> rfl)) | (simp [*, errW_none, errW_some] <;> rfl), by repeat (first | (with_reducible first | exact HB.out | apply below_alloc | apply pw_below_drewN | apply below_drew1) | exact HB.out)⟩
    · rw [if_neg c7] at H
      exact absurd H (by simp)
  · rw [if_neg c6] at H
    exact absurd H (by simp)

/-- THE ONE PURE STATEMENT of abugidalaw17_FormsMay: yours. -/
def abugidalaw17_FormsMay.Pure : Prop := ∀ (l0 : List Int) (a1 : Int) (a2 : Int), l0.length ≤ maxLen → l0.length * 8 ≤ 140737488351232 → (∀ x ∈ l0, (Lit.int .i64 x).wf = true) → (Lit.int .i64 a1).wf = true → (Lit.int .i64 a2).wf = true → ∃ k, abugidalaw17_FormsMay.f k l0 a1 a2 = some true
theorem abugidalaw17_FormsMay.walk (P : abugidalaw17_FormsMay.Pure) (a0 : Option Addr) (len0 cap0 : Nat) (z0 : List Int) (a1 : Int) (a2 : Int) (w : World) (w0 : (a0 = none ∧ len0 = 0 ∧ cap0 = 0 ∧ z0 = []) ∨ ∃ x, a0 = some x ∧ len0 ≤ cap0 ∧ cap0 ≤ maxLen ∧ z0.length = cap0 ∧ (∀ i, i < z0.length → w.cell? (x.add i) = some (.int .i64 (z0.getD i 0))) ∧ ∀ n ∈ z0, (Lit.int .i64 n).wf = true) (y0 : len0 * 8 ≤ 140737488351232) (w1 : (Lit.int .i64 a1).wf = true) (w2 : (Lit.int .i64 a2).wf = true) :
    Calls Try.prog 5 #[.slice a0 len0 cap0, .int .i64 a1, .int .i64 a2] w fun e w' => e = .returned (.bool true) ∧ Below w.heap.size w w' := by
  obtain ⟨l0, rfl, hr0, hm0, hw0, hc0⟩ := ReadsInt.ofRowC w0
  obtain ⟨k, h⟩ := P l0 a1 a2 hm0 y0 hw0 w1 w2
  refine (abugidalaw17_FormsMay.calls k _ _ l0 a1 a2 true w (Kd.C_of_reads (d := (0 : Int)) (h1 := fun _ => rfl) hr0) hc0 h).mono ?_
  rintro e w' ⟨rfl, hd⟩
  exact ⟨rfl, hd⟩

end Go.Proofs.Ytgpdieogkcnfeaa.Q

-- Written by wip/tools/myprint.py, a program of this session that drives the kit's print.py; not a text of print.sh.
import Derived.Test.YtgpdieogkcnfeaaQx0
import Derived.Test.YtgpdieogkcnfeaaQx2
import Derived.Test.YtgpdieogkcnfeaaQx6
import Derived.Test.YtgpdieogkcnfeaaQx9
namespace Go.Proofs.Ytgpdieogkcnfeaa.Q
open Go.RowKit Go.Proofs.YtgpdieogkcnfeaaW.PrintWords Go.Proofs.YtgpdieogkcnfeaaW.PrintLast Go.Proofs.YtgpdieogkcnfeaaW.PrintMore
attribute [local go_sem] max2_int min2_int max_two min_two max_three min_three max_four min_four   -- for this text's walks alone
set_option linter.unusedVariables false
set_option linter.unusedSimpArgs false

/-! ### abugidalaw17_FormsApart: function 7 -/
mutual
def abugidalaw17_FormsApart.j0 : Nat → Int → Bool → ByteArray → ByteArray → Bool → Option (Bool)
  | 0, _, _, _, _, _ => none
  | k + 1, x2, x7, x8, x9, x27 => if x27 = true then (if 1 + x9.size ≤ 9223372036854775807 then (abugidalaw17_FormsApart.j1 k x2 x7 x8 ((⟨#[104]⟩ : ByteArray) ++ x9)) else (none)) else (abugidalaw17_FormsApart.j1 k x2 x7 x8 x9)
def abugidalaw17_FormsApart.j1 : Nat → Int → Bool → ByteArray → ByteArray → Option (Bool)
  | 0, _, _, _, _ => none
  | k + 1, x2, x7, x8, x9 => (some (([(⟨#[32]⟩ : ByteArray), (⟨#[10]⟩ : ByteArray), (⟨#[33]⟩ : ByteArray), (⟨#[45]⟩ : ByteArray)] : List ByteArray) : List ByteArray)).bind fun y438 => (if 0 ≤ (Int.tmod x2 4) then (if (Int.tmod x2 4) < (y438.length : Int) then ((forms_Forms.f k x8).bind fun t442 => ((forms_Forms.f k x9).bind fun t445 => (if x8.size + (rdOf ByteArray.empty y438 (Int.tmod x2 4)).size ≤ 9223372036854775807 then (if (x8 ++ (rdOf ByteArray.empty y438 (Int.tmod x2 4))).size + x9.size ≤ 9223372036854775807 then ((forms_Forms.f k ((x8 ++ (rdOf ByteArray.empty y438 (Int.tmod x2 4))) ++ x9)).bind fun t448 => (if (t448.length : Int) = (wrap64 ((wrap64 ((t442.length : Int) + 1)) + (t445.length : Int))) then (if x7 = true then (if 0 ≤ (t442.length : Int) then (if (t442.length : Int) ≤ (t448.length : Int) then ((abugidalaw17_is.f k (t448.take ((t442.length : Int) : Int).toNat) t442).bind fun t455 => (if t455 = true then (if (t442.length : Int) < (t448.length : Int) then (if (rd t448 (t442.length : Int)) = 0 then (if 0 ≤ (wrap64 ((t442.length : Int) + 1)) then (if (wrap64 ((t442.length : Int) + 1)) ≤ (t448.length : Int) then ((abugidalaw17_is.f k (t448.drop ((wrap64 ((t442.length : Int) + 1)) : Int).toNat) t445).bind fun t461 => (some t461)) else (none)) else (none)) else (some false)) else (none)) else (some false))) else (none)) else (none)) else (some false)) else (some false))) else (none)) else (none)))) else (none)) else (none))
end
def abugidalaw17_FormsApart.f (k : Nat) (l0 : List Int) (l1 : List Int) (a2 : Int) : Option (Bool) := (abugidalaw17_sanity.f k).bind fun t434 => ((abugidaref05_Text.f k l0 30).bind fun t435 => ((abugidaref05_Text.f k l1 30).bind fun t436 => (if (t436.size : Int) > 0 then (if 0 < (t436.size : Int) then ((chars_Extends.f k (wrap64 (bt t436 0))).bind fun t437 => (abugidalaw17_FormsApart.j0 k a2 t434 t435 t436 t437)) else (none)) else (abugidalaw17_FormsApart.j0 k a2 t434 t435 t436 false))))
theorem abugidalaw17_FormsApart.mono_l : ∀ k, (∀ y0 y1 y2 y3 y4, LeO (abugidalaw17_FormsApart.j0 k y0 y1 y2 y3 y4) (abugidalaw17_FormsApart.j0 (k + 1) y0 y1 y2 y3 y4)) ∧ (∀ y0 y1 y2 y3, LeO (abugidalaw17_FormsApart.j1 k y0 y1 y2 y3) (abugidalaw17_FormsApart.j1 (k + 1) y0 y1 y2 y3))
  | 0 => ⟨fun _ _ _ _ _ r h => by simp [abugidalaw17_FormsApart.j0] at h, fun _ _ _ _ r h => by simp [abugidalaw17_FormsApart.j1] at h⟩
  | k + 1 => by
    obtain ⟨ih0, ih1⟩ := abugidalaw17_FormsApart.mono_l k
    refine ⟨?_, ?_⟩
    · intro y0 y1 y2 y3 y4
      unfold abugidalaw17_FormsApart.j0
      repeat' first
      | (with_reducible exact ih0 _ _ _ _ _)
      | (with_reducible exact ih1 _ _ _ _)
      | (with_reducible exact abugidalaw17_is.mono _ _ _)
      | (with_reducible exact abugidalaw17_sanity.mono _)
      | (with_reducible exact abugidaref05_Text.mono _ _ _)
      | (with_reducible exact chars_Extends.mono _ _)
      | (with_reducible exact forms_Forms.mono _ _)
      | (with_reducible exact LeO.refl _)
      | (with_reducible exact LeO.none _)
      | (with_reducible refine LeO.ite ?_ ?_)
      | (with_reducible refine LeO.bind ?_ (fun _ => ?_))
      | exact ih0 _ _ _ _ _
      | exact ih1 _ _ _ _
      | exact abugidalaw17_is.mono _ _ _
      | exact abugidalaw17_sanity.mono _
      | exact abugidaref05_Text.mono _ _ _
      | exact chars_Extends.mono _ _
      | exact forms_Forms.mono _ _
      | exact LeO.none _
      | refine LeO.ite ?_ ?_
      | refine LeO.bind ?_ (fun _ => ?_)
    · intro y0 y1 y2 y3
      unfold abugidalaw17_FormsApart.j1
      repeat' first
      | (with_reducible exact ih0 _ _ _ _ _)
      | (with_reducible exact ih1 _ _ _ _)
      | (with_reducible exact abugidalaw17_is.mono _ _ _)
      | (with_reducible exact abugidalaw17_sanity.mono _)
      | (with_reducible exact abugidaref05_Text.mono _ _ _)
      | (with_reducible exact chars_Extends.mono _ _)
      | (with_reducible exact forms_Forms.mono _ _)
      | (with_reducible exact LeO.refl _)
      | (with_reducible exact LeO.none _)
      | (with_reducible refine LeO.ite ?_ ?_)
      | (with_reducible refine LeO.bind ?_ (fun _ => ?_))
      | exact ih0 _ _ _ _ _
      | exact ih1 _ _ _ _
      | exact abugidalaw17_is.mono _ _ _
      | exact abugidalaw17_sanity.mono _
      | exact abugidaref05_Text.mono _ _ _
      | exact chars_Extends.mono _ _
      | exact forms_Forms.mono _ _
      | exact LeO.none _
      | refine LeO.ite ?_ ?_
      | refine LeO.bind ?_ (fun _ => ?_)
theorem abugidalaw17_FormsApart.mono : ∀ a0 a1 a2 k, LeO (abugidalaw17_FormsApart.f k a0 a1 a2) (abugidalaw17_FormsApart.f (k + 1) a0 a1 a2) := by
  intro a0 a1 a2 k
  obtain ⟨ih0, ih1⟩ := abugidalaw17_FormsApart.mono_l k
  unfold abugidalaw17_FormsApart.f
  repeat' first
      | (with_reducible exact ih0 _ _ _ _ _)
      | (with_reducible exact ih1 _ _ _ _)
      | (with_reducible exact abugidalaw17_is.mono _ _ _)
      | (with_reducible exact abugidalaw17_sanity.mono _)
      | (with_reducible exact abugidaref05_Text.mono _ _ _)
      | (with_reducible exact chars_Extends.mono _ _)
      | (with_reducible exact forms_Forms.mono _ _)
      | (with_reducible exact LeO.refl _)
      | (with_reducible exact LeO.none _)
      | (with_reducible refine LeO.ite ?_ ?_)
      | (with_reducible refine LeO.bind ?_ (fun _ => ?_))
      | exact ih0 _ _ _ _ _
      | exact ih1 _ _ _ _
      | exact abugidalaw17_is.mono _ _ _
      | exact abugidalaw17_sanity.mono _
      | exact abugidaref05_Text.mono _ _ _
      | exact chars_Extends.mono _ _
      | exact forms_Forms.mono _ _
      | exact LeO.none _
      | refine LeO.ite ?_ ?_
      | refine LeO.bind ?_ (fun _ => ?_)
set_option maxHeartbeats 8000000 in
set_option maxRecDepth 100000 in
theorem abugidalaw17_FormsApart.calls (k : Nat) (A0 : Option Addr) (c0 : Nat) (l0 : List Int) (A1 : Option Addr) (c1 : Nat) (l1 : List Int) (a2 : Int) (r : Bool) (w : World) (hr0 : Kd.C (Kd.int .i64) w A0 l0.length l0) (hc0 : l0.length ≤ c0) (hr1 : Kd.C (Kd.int .i64) w A1 l1.length l1) (hc1 : l1.length ≤ c1) (h : abugidalaw17_FormsApart.f k l0 l1 a2 = some r) :
    Calls Try.prog 7 #[.slice A0 l0.length c0, .slice A1 l1.length c1, .int .u8 a2] w fun e w' => e = .returned (.bool r) ∧ Below w.heap.size w w' := by
  have HR0 := Aside0.mk hr0
  have HC0 := Aside0.mk hc0
  clear hr0 hc0
  have HR1 := Aside0.mk hr1
  have HC1 := Aside0.mk hc1
  clear hr1 hc1
  have HB := Aside0.mk (Below.refl w.heap.size w)
  have H : ((abugidalaw17_sanity.f k).bind fun t434 => ((abugidaref05_Text.f k l0 30).bind fun t435 => ((abugidaref05_Text.f k l1 30).bind fun t436 => (if (t436.size : Int) > 0 then (if 0 < (t436.size : Int) then ((chars_Extends.f k (wrap64 (bt t436 0))).bind fun t437 => (abugidalaw17_FormsApart.j0 k a2 t434 t435 t436 t437)) else (none)) else (abugidalaw17_FormsApart.j0 k a2 t434 t435 t436 false))))) = some r := h
  clear h
  replace H := Option.bind_eq_some_iff.mp H
  obtain ⟨t434, A40, H⟩ := H
  replace H : ((abugidaref05_Text.f k l0 30).bind fun t435 => ((abugidaref05_Text.f k l1 30).bind fun t436 => (if (t436.size : Int) > 0 then (if 0 < (t436.size : Int) then ((chars_Extends.f k (wrap64 (bt t436 0))).bind fun t437 => (abugidalaw17_FormsApart.j0 k a2 t434 t435 t436 t437)) else (none)) else (abugidalaw17_FormsApart.j0 k a2 t434 t435 t436 false)))) = some r := H
  have A4 := Aside0.mk A40
  clear A40
  replace H := Option.bind_eq_some_iff.mp H
  obtain ⟨t435, A50, H⟩ := H
  replace H : ((abugidaref05_Text.f k l1 30).bind fun t436 => (if (t436.size : Int) > 0 then (if 0 < (t436.size : Int) then ((chars_Extends.f k (wrap64 (bt t436 0))).bind fun t437 => (abugidalaw17_FormsApart.j0 k a2 t434 t435 t436 t437)) else (none)) else (abugidalaw17_FormsApart.j0 k a2 t434 t435 t436 false))) = some r := H
  have A5 := Aside0.mk A50
  clear A50
  replace H := Option.bind_eq_some_iff.mp H
  obtain ⟨t436, A60, H⟩ := H
  replace H : (if (t436.size : Int) > 0 then (if 0 < (t436.size : Int) then ((chars_Extends.f k (wrap64 (bt t436 0))).bind fun t437 => (abugidalaw17_FormsApart.j0 k a2 t434 t435 t436 t437)) else (none)) else (abugidalaw17_FormsApart.j0 k a2 t434 t435 t436 false)) = some r := H
  have A6 := Aside0.mk A60
  clear A60
  have HC7 := Aside0.mk H
  clear H
  go_enter Try.func7, Try.ntmps7
  go_upto_region 4 with (first | ((with_reducible refine gate_callee (f := 9) rfl ?_); refine goesL_ (some 14) rfl rfl Try.func9 (by kernel_rfl) rfl #[] rfl (by (try simp only [List.map_toArray, List.map_cons, List.map_nil]); first | done | rfl | (simp only [List.length_drop, List.length_take]; rfl)) ?_; (with_reducible refine (abugidalaw17_sanity.calls k  t434 _ A4.out).mono ?_); rintro e w8 ⟨rfl, hb⟩; refine ⟨_, rfl, ?_⟩; have n0_ := Aside0.mk (below_step (by repeat (first | (with_reducible first | exact HB.out | apply below_alloc | apply pw_below_drewN | apply below_drew1) | exact HB.out)) hb); clear HB; have HB := n0_; clear n0_; (try clear hb); (try clear hb2); (try clear hk); (try clear hi)) | ((with_reducible refine gate_callee (f := 10) rfl ?_); refine goesL_ (some 16) rfl rfl Try.func10 (by kernel_rfl) rfl #[.slice A0 l0.length c0, .int .i64 30] rfl (by (try simp only [List.map_toArray, List.map_cons, List.map_nil]); first | done | rfl | (simp only [List.length_drop, List.length_take]; rfl)) ?_; (with_reducible refine (abugidaref05_Text.calls k _ _ l0 30 t435 _ ?side1 ?side2 A5.out).mono ?_); (case side1 => repeat (first | exact (Kd.C_below HR0.out HB.out) | (with_reducible refine Kd.C_alloc ?_ _) | (with_reducible refine Kd.C_drewN ?_ _) | (with_reducible refine Kd.C_drew ?_))); (case side2 => exact HC0.out); rintro e w9 ⟨rfl, hb⟩; refine ⟨_, rfl, ?_⟩; have n0_ := Aside0.mk (below_step (by repeat (first | (with_reducible first | exact HB.out | apply below_alloc | apply pw_below_drewN | apply below_drew1) | exact HB.out)) hb); clear HB; have HB := n0_; clear n0_; (try clear hb); (try clear hb2); (try clear hk); (try clear hi)) | ((with_reducible refine gate_callee (f := 10) rfl ?_); refine goesL_ (some 18) rfl rfl Try.func10 (by kernel_rfl) rfl #[.slice A1 l1.length c1, .int .i64 30] rfl (by (try simp only [List.map_toArray, List.map_cons, List.map_nil]); first | done | rfl | (simp only [List.length_drop, List.length_take]; rfl)) ?_; (with_reducible refine (abugidaref05_Text.calls k _ _ l1 30 t436 _ ?side1 ?side2 A6.out).mono ?_); (case side1 => repeat (first | exact (Kd.C_below HR1.out HB.out) | (with_reducible refine Kd.C_alloc ?_ _) | (with_reducible refine Kd.C_drewN ?_ _) | (with_reducible refine Kd.C_drew ?_))); (case side2 => exact HC1.out); rintro e w10 ⟨rfl, hb⟩; refine ⟨_, rfl, ?_⟩; have n0_ := Aside0.mk (below_step (by repeat (first | (with_reducible first | exact HB.out | apply below_alloc | apply pw_below_drewN | apply below_drew1) | exact HB.out)) hb); clear HB; have HB := n0_; clear n0_; (try clear hb); (try clear hb2); (try clear hk); (try clear hi)))
  (try simp only [Act.put, List.setIfInBounds_toArray, List.set_cons_zero, List.set_cons_succ])
  go_cut [27] (fun v27 wc => ∃ (kq : Nat) (x27_6 : Bool), v27 = .bool x27_6 ∧ Aside0 (abugidalaw17_FormsApart.j0 kq a2 t434 t435 t436 x27_6 = some r) ∧ Aside0 (kq ≤ k) ∧ Aside0 (Below w.heap.size w wc))
  case first =>
    have H := HC7.out
    clear HC7
    by_cases c11 : (t436.size : Int) > 0
    · rw [if_pos c11] at H
      have c11b0 : decide (0 < (t436.size : Int)) = true := decide_eq_true c11
      have c11b1 : decide (0 < t436.size) = true := decide_eq_true (by omega)
      clear c11
      (first | rw [c11b0] | (simp only [i64_w, i32_w]; rw [c11b0]) | skip)
      by_cases c12 : 0 < (t436.size : Int)
      · rw [if_pos c12] at H
        have c12b0 : decide (0 < (t436.size : Int)) = true := decide_eq_true c12
        have c12b1 : decide (0 < t436.size) = true := decide_eq_true (by omega)
        clear c12
        replace H := Option.bind_eq_some_iff.mp H
        obtain ⟨t437, A140, H⟩ := H
        replace H : (abugidalaw17_FormsApart.j0 k a2 t434 t435 t436 t437) = some r := H
        have A14 := Aside0.mk A140
        clear A140
        have H' := Aside0.mk H
        clear H
        have p13 : 0 ≤ (0 : Int) := (by omega)
        have q13 : 0 < t436.size := (by have : (0 : Int) < (t436.size : Int) := of_decide_eq_true (by first | (with_reducible assumption) | assumption); omega)
        have hx13 : ∀ h : 0 < t436.size, ((t436[0]'h).toNat : Int) = bt t436 0 := bt_at t436 0
        clear p13
        have qi13 : (0 < (t436.size : Int)) = True := eq_true (of_decide_eq_true (by first | (with_reducible assumption) | assumption))
        replace q13 := eq_true q13
        go_wp2_with (first | (go_at_call 23; (with_reducible refine (chars_Extends.calls k (wrap64 (bt t436 0)) t437 _ A14.out).mono ?_); rintro e w15 ⟨rfl, hb⟩; have n0_ := Aside0.mk (below_step (by repeat (first | (with_reducible first | exact HB.out | apply below_alloc | apply pw_below_drewN | apply below_drew1) | exact HB.out)) hb); clear HB; have HB := n0_; clear n0_; (try clear hb); (try clear hb2); (try clear hk); (try clear hi)))
        go_meet
        case rel => exact ⟨_, (t437), (by first | rfl | (simp; done) | (simp [*]; done)), H', ⟨by first | omega | exact Nat.le_refl _⟩, ⟨by repeat (first | (with_reducible first | exact HB.out | apply below_alloc | apply pw_below_drewN | apply below_drew1) | exact HB.out)⟩⟩
      · rw [if_neg c12] at H
        exact absurd H (by simp)
    · rw [if_neg c11] at H
      have c11b0 : decide (0 < (t436.size : Int)) = false := decide_eq_false c11
      have c11b1 : decide (0 < t436.size) = false := decide_eq_false (by omega)
      clear c11
      (first | rw [c11b0] | (simp only [i64_w, i32_w]; rw [c11b0]) | skip)
      have H' := Aside0.mk H
      clear H
      go_wp2
      go_meet
      case rel => exact ⟨_, (false), (by first | rfl | (simp; done) | (simp [*]; done)), H', ⟨by first | omega | exact Nat.le_refl _⟩, ⟨by repeat (first | (with_reducible first | exact HB.out | apply below_alloc | apply pw_below_drewN | apply below_drew1) | exact HB.out)⟩⟩
  case rest =>
    clear HC7
    try clear c1
    try clear p1
    try clear q1
    try clear hx1
    try clear qi1
    try clear p2
    try clear p6
    try clear c7
    try clear c9
    try clear c10
    try clear c11
    try clear c11b0
    try clear c11b1
    try clear c12
    try clear c12b0
    try clear c12b1
    try clear p13
    try clear q13
    try clear hx13
    try clear qi13
    try clear p13
    try clear q13
    obtain ⟨kq, x27_6, rfl, HA, HJ6, HB⟩ := hcut
    cases kq with
    | zero => exact absurd HA.out (by simp [abugidalaw17_FormsApart.j0])
    | succ kj6 =>
      have H := HA.out
      clear HA
      simp only [abugidalaw17_FormsApart.j0] at H
      have HC16 := Aside0.mk H
      clear H
      go_upto_if 27 with (fail)
      go_cut [9] (fun v9 wc => ∃ (kq : Nat) (x9_15 : ByteArray), v9 = .string x9_15 ∧ Aside0 (abugidalaw17_FormsApart.j1 kq a2 t434 t435 x9_15 = some r) ∧ Aside0 (kq ≤ kj6) ∧ Aside0 (Below w.heap.size w wc))
      case first =>
        have H := HC16.out
        clear HC16
        by_cases c17 : x27_6 = true
        · subst c17
          have H1 : (if 1 + t436.size ≤ 9223372036854775807 then (abugidalaw17_FormsApart.j1 kj6 a2 t434 t435 ((⟨#[104]⟩ : ByteArray) ++ t436)) else (none)) = some r := by rw [if_pos rfl] at H; exact H
          clear H
          have H := H1
          clear H1
          by_cases c18 : 1 + t436.size ≤ 9223372036854775807
          · rw [if_pos c18] at H
            have c18b0 := eq_true c18
            have c18b1 : decide (1 + t436.size ≤ 9223372036854775807) = true := decide_eq_true c18
            try have c18b2 : (9223372036854775807 < 1 + t436.size) = False := eq_false (Nat.not_lt.2 c18)
            have H' := Aside0.mk H
            clear H
            go_wp2
            go_meet
            case rel => exact ⟨_, ((⟨#[104]⟩ : ByteArray) ++ t436), (by first | rfl | (simp; done) | (simp [*]; done)), H', ⟨by have := HJ6.out; first | omega | exact Nat.le_refl _⟩, ⟨by repeat (first | (with_reducible first | exact HB.out | apply below_alloc | apply pw_below_drewN | apply below_drew1) | exact HB.out)⟩⟩
          · rw [if_neg c18] at H
            exact absurd H (by simp)
        · replace c17 := Bool.eq_false_iff.mpr c17
          subst c17
          have H1 : (abugidalaw17_FormsApart.j1 kj6 a2 t434 t435 t436) = some r := by rw [if_neg (show ¬ (false = true) by decide)] at H; exact H
          clear H
          have H := H1
          clear H1
          have H' := Aside0.mk H
          clear H
          go_wp2
          go_meet
          case rel => exact ⟨_, (t436), (by first | rfl | (simp; done) | (simp [*]; done)), H', ⟨by have := HJ6.out; first | omega | exact Nat.le_refl _⟩, ⟨by repeat (first | (with_reducible first | exact HB.out | apply below_alloc | apply pw_below_drewN | apply below_drew1) | exact HB.out)⟩⟩
      case rest =>
        clear HC16
        try clear c1
        try clear p1
        try clear q1
        try clear hx1
        try clear qi1
        try clear p2
        try clear p6
        try clear c7
        try clear c9
        try clear c10
        try clear c11
        try clear c11b0
        try clear c11b1
        try clear c12
        try clear c12b0
        try clear c12b1
        try clear p13
        try clear q13
        try clear hx13
        try clear qi13
        try clear c17
        try clear c18
        try clear c18b0
        try clear c18b1
        try clear c18b2
        try clear p1
        try clear p13
        try clear p2
        try clear p6
        try clear q1
        try clear q13
        obtain ⟨kq, x9_15, rfl, HA, HJ15, HB⟩ := hcut
        cases kq with
        | zero => exact absurd HA.out (by simp [abugidalaw17_FormsApart.j1])
        | succ kj15 =>
          have H := HA.out
          clear HA
          simp only [abugidalaw17_FormsApart.j1] at H
          obtain ⟨y438, hy438⟩ : ∃ y_ : List ByteArray, y_ = (([(⟨#[32]⟩ : ByteArray), (⟨#[10]⟩ : ByteArray), (⟨#[33]⟩ : ByteArray), (⟨#[45]⟩ : ByteArray)] : List ByteArray)) := ⟨_, rfl⟩
          replace H : (if 0 ≤ (Int.tmod a2 4) then (if (Int.tmod a2 4) < (y438.length : Int) then ((forms_Forms.f kj15 t435).bind fun t442 => ((forms_Forms.f kj15 x9_15).bind fun t445 => (if t435.size + (rdOf ByteArray.empty y438 (Int.tmod a2 4)).size ≤ 9223372036854775807 then (if (t435 ++ (rdOf ByteArray.empty y438 (Int.tmod a2 4))).size + x9_15.size ≤ 9223372036854775807 then ((forms_Forms.f kj15 ((t435 ++ (rdOf ByteArray.empty y438 (Int.tmod a2 4))) ++ x9_15)).bind fun t448 => (if (t448.length : Int) = (wrap64 ((wrap64 ((t442.length : Int) + 1)) + (t445.length : Int))) then (if t434 = true then (if 0 ≤ (t442.length : Int) then (if (t442.length : Int) ≤ (t448.length : Int) then ((abugidalaw17_is.f kj15 (t448.take ((t442.length : Int) : Int).toNat) t442).bind fun t455 => (if t455 = true then (if (t442.length : Int) < (t448.length : Int) then (if (rd t448 (t442.length : Int)) = 0 then (if 0 ≤ (wrap64 ((t442.length : Int) + 1)) then (if (wrap64 ((t442.length : Int) + 1)) ≤ (t448.length : Int) then ((abugidalaw17_is.f kj15 (t448.drop ((wrap64 ((t442.length : Int) + 1)) : Int).toNat) t445).bind fun t461 => (some t461)) else (none)) else (none)) else (some false)) else (none)) else (some false))) else (none)) else (none)) else (some false)) else (some false))) else (none)) else (none)))) else (none)) else (none)) = some r := by first | (rw [hy438]; with_reducible exact H) | (have H2_ := (Option.bind_some _ _).symm.trans H; rw [hy438]; with_reducible exact H2_) | (have H2_ := (Option.bind_some _ _).symm.trans H; with_reducible exact H2_) | with_reducible exact H | (rw [hy438]; exact H) | exact H
          have Ny438 := Aside0.mk hy438
          clear hy438
          obtain ⟨ji19, hji19⟩ : ∃ j_ : Int, (Int.tmod a2 4) = j_ := ⟨_, rfl⟩
          replace H : (if 0 ≤ (ji19) then (if (ji19) < (y438.length : Int) then ((forms_Forms.f kj15 t435).bind fun t442 => ((forms_Forms.f kj15 x9_15).bind fun t445 => (if t435.size + (rdOf ByteArray.empty y438 (ji19)).size ≤ 9223372036854775807 then (if (t435 ++ (rdOf ByteArray.empty y438 (ji19))).size + x9_15.size ≤ 9223372036854775807 then ((forms_Forms.f kj15 ((t435 ++ (rdOf ByteArray.empty y438 (ji19))) ++ x9_15)).bind fun t448 => (if (t448.length : Int) = (wrap64 ((wrap64 ((t442.length : Int) + 1)) + (t445.length : Int))) then (if t434 = true then (if 0 ≤ (t442.length : Int) then (if (t442.length : Int) ≤ (t448.length : Int) then ((abugidalaw17_is.f kj15 (t448.take ((t442.length : Int) : Int).toNat) t442).bind fun t455 => (if t455 = true then (if (t442.length : Int) < (t448.length : Int) then (if (rd t448 (t442.length : Int)) = 0 then (if 0 ≤ (wrap64 ((t442.length : Int) + 1)) then (if (wrap64 ((t442.length : Int) + 1)) ≤ (t448.length : Int) then ((abugidalaw17_is.f kj15 (t448.drop ((wrap64 ((t442.length : Int) + 1)) : Int).toNat) t445).bind fun t461 => (some t461)) else (none)) else (none)) else (some false)) else (none)) else (some false))) else (none)) else (none)) else (some false)) else (some false))) else (none)) else (none)))) else (none)) else (none)) = some r := by first | (rw [hji19] at H; exact H) | (simp only [hji19] at H ⊢; exact H)
          by_cases c20 : 0 ≤ (ji19)
          · rw [if_pos c20] at H
            have c20b0 : decide (0 ≤ (ji19)) = true := decide_eq_true c20
            clear c20
            by_cases c21 : (ji19) < (y438.length : Int)
            · rw [if_pos c21] at H
              have c21b0 : decide ((ji19) < (y438.length : Int)) = true := decide_eq_true c21
              clear c21
              replace H := Option.bind_eq_some_iff.mp H
              obtain ⟨t442, A220, H⟩ := H
              replace H : ((forms_Forms.f kj15 x9_15).bind fun t445 => (if t435.size + (rdOf ByteArray.empty y438 (ji19)).size ≤ 9223372036854775807 then (if (t435 ++ (rdOf ByteArray.empty y438 (ji19))).size + x9_15.size ≤ 9223372036854775807 then ((forms_Forms.f kj15 ((t435 ++ (rdOf ByteArray.empty y438 (ji19))) ++ x9_15)).bind fun t448 => (if (t448.length : Int) = (wrap64 ((wrap64 ((t442.length : Int) + 1)) + (t445.length : Int))) then (if t434 = true then (if 0 ≤ (t442.length : Int) then (if (t442.length : Int) ≤ (t448.length : Int) then ((abugidalaw17_is.f kj15 (t448.take ((t442.length : Int) : Int).toNat) t442).bind fun t455 => (if t455 = true then (if (t442.length : Int) < (t448.length : Int) then (if (rd t448 (t442.length : Int)) = 0 then (if 0 ≤ (wrap64 ((t442.length : Int) + 1)) then (if (wrap64 ((t442.length : Int) + 1)) ≤ (t448.length : Int) then ((abugidalaw17_is.f kj15 (t448.drop ((wrap64 ((t442.length : Int) + 1)) : Int).toNat) t445).bind fun t461 => (some t461)) else (none)) else (none)) else (some false)) else (none)) else (some false))) else (none)) else (none)) else (some false)) else (some false))) else (none)) else (none))) = some r := H
              have A22 := Aside0.mk A220
              clear A220
              replace H := Option.bind_eq_some_iff.mp H
              obtain ⟨t445, A230, H⟩ := H
              replace H : (if t435.size + (rdOf ByteArray.empty y438 (ji19)).size ≤ 9223372036854775807 then (if (t435 ++ (rdOf ByteArray.empty y438 (ji19))).size + x9_15.size ≤ 9223372036854775807 then ((forms_Forms.f kj15 ((t435 ++ (rdOf ByteArray.empty y438 (ji19))) ++ x9_15)).bind fun t448 => (if (t448.length : Int) = (wrap64 ((wrap64 ((t442.length : Int) + 1)) + (t445.length : Int))) then (if t434 = true then (if 0 ≤ (t442.length : Int) then (if (t442.length : Int) ≤ (t448.length : Int) then ((abugidalaw17_is.f kj15 (t448.take ((t442.length : Int) : Int).toNat) t442).bind fun t455 => (if t455 = true then (if (t442.length : Int) < (t448.length : Int) then (if (rd t448 (t442.length : Int)) = 0 then (if 0 ≤ (wrap64 ((t442.length : Int) + 1)) then (if (wrap64 ((t442.length : Int) + 1)) ≤ (t448.length : Int) then ((abugidalaw17_is.f kj15 (t448.drop ((wrap64 ((t442.length : Int) + 1)) : Int).toNat) t445).bind fun t461 => (some t461)) else (none)) else (none)) else (some false)) else (none)) else (some false))) else (none)) else (none)) else (some false)) else (some false))) else (none)) else (none)) = some r := H
              have A23 := Aside0.mk A230
              clear A230
              by_cases c24 : t435.size + (rdOf ByteArray.empty y438 (ji19)).size ≤ 9223372036854775807
              · rw [if_pos c24] at H
                have c24b0 := eq_true c24
                have c24b1 : decide (t435.size + (rdOf ByteArray.empty y438 (ji19)).size ≤ 9223372036854775807) = true := decide_eq_true c24
                try have c24b2 : (9223372036854775807 < t435.size + (rdOf ByteArray.empty y438 (ji19)).size) = False := eq_false (Nat.not_lt.2 c24)
                by_cases c25 : (t435 ++ (rdOf ByteArray.empty y438 (ji19))).size + x9_15.size ≤ 9223372036854775807
                · rw [if_pos c25] at H
                  have c25b0 := eq_true c25
                  have c25b1 : decide ((t435 ++ (rdOf ByteArray.empty y438 (ji19))).size + x9_15.size ≤ 9223372036854775807) = true := decide_eq_true c25
                  try have c25b2 : (9223372036854775807 < (t435 ++ (rdOf ByteArray.empty y438 (ji19))).size + x9_15.size) = False := eq_false (Nat.not_lt.2 c25)
                  replace H := Option.bind_eq_some_iff.mp H
                  obtain ⟨t448, A260, H⟩ := H
                  replace H : (if (t448.length : Int) = (wrap64 ((wrap64 ((t442.length : Int) + 1)) + (t445.length : Int))) then (if t434 = true then (if 0 ≤ (t442.length : Int) then (if (t442.length : Int) ≤ (t448.length : Int) then ((abugidalaw17_is.f kj15 (t448.take ((t442.length : Int) : Int).toNat) t442).bind fun t455 => (if t455 = true then (if (t442.length : Int) < (t448.length : Int) then (if (rd t448 (t442.length : Int)) = 0 then (if 0 ≤ (wrap64 ((t442.length : Int) + 1)) then (if (wrap64 ((t442.length : Int) + 1)) ≤ (t448.length : Int) then ((abugidalaw17_is.f kj15 (t448.drop ((wrap64 ((t442.length : Int) + 1)) : Int).toNat) t445).bind fun t461 => (some t461)) else (none)) else (none)) else (some false)) else (none)) else (some false))) else (none)) else (none)) else (some false)) else (some false)) = some r := H
                  have A26 := Aside0.mk A260
                  clear A260
                  by_cases c27 : (t448.length : Int) = (wrap64 ((wrap64 ((t442.length : Int) + 1)) + (t445.length : Int)))
                  · rw [if_pos c27] at H
                    have c27b0 : ((t448.length : Int) == (wrap64 ((wrap64 ((t442.length : Int) + 1)) + (t445.length : Int)))) = true := beq_iff_eq.mpr c27
                    have c27b1 : ((t448.length : Int) != (wrap64 ((wrap64 ((t442.length : Int) + 1)) + (t445.length : Int)))) = false := bne_eq_false_iff_eq.mpr c27
                    clear c27
                    by_cases c28 : t434 = true
                    · subst c28
                      have H1 : (if 0 ≤ (t442.length : Int) then (if (t442.length : Int) ≤ (t448.length : Int) then ((abugidalaw17_is.f kj15 (t448.take ((t442.length : Int) : Int).toNat) t442).bind fun t455 => (if t455 = true then (if (t442.length : Int) < (t448.length : Int) then (if (rd t448 (t442.length : Int)) = 0 then (if 0 ≤ (wrap64 ((t442.length : Int) + 1)) then (if (wrap64 ((t442.length : Int) + 1)) ≤ (t448.length : Int) then ((abugidalaw17_is.f kj15 (t448.drop ((wrap64 ((t442.length : Int) + 1)) : Int).toNat) t445).bind fun t461 => (some t461)) else (none)) else (none)) else (some false)) else (none)) else (some false))) else (none)) else (none)) = some r := by rw [if_pos rfl] at H; exact H
                      clear H
                      have H := H1
                      clear H1
                      by_cases c29 : 0 ≤ (t442.length : Int)
                      · rw [if_pos c29] at H
                        have c29b0 := eq_true c29
                        have c29b1 : decide (0 ≤ (t442.length : Int)) = true := decide_eq_true c29
                        clear c29
                        by_cases c30 : (t442.length : Int) ≤ (t448.length : Int)
                        · rw [if_pos c30] at H
                          have c30b0 := eq_true c30
                          have c30b1 : decide ((t442.length : Int) ≤ (t448.length : Int)) = true := decide_eq_true c30
                          clear c30
                          obtain ⟨y451, hy451⟩ : ∃ y_ : List Int, y_ = (t448.take ((t442.length : Int) : Int).toNat) := ⟨_, rfl⟩
                          replace H : ((abugidalaw17_is.f kj15 y451 t442).bind fun t455 => (if t455 = true then (if (t442.length : Int) < (t448.length : Int) then (if (rd t448 (t442.length : Int)) = 0 then (if 0 ≤ (wrap64 ((t442.length : Int) + 1)) then (if (wrap64 ((t442.length : Int) + 1)) ≤ (t448.length : Int) then ((abugidalaw17_is.f kj15 (t448.drop ((wrap64 ((t442.length : Int) + 1)) : Int).toNat) t445).bind fun t461 => (some t461)) else (none)) else (none)) else (some false)) else (none)) else (some false))) = some r := by first | (rw [hy451]; with_reducible exact H) | (have H2_ := (Option.bind_some _ _).symm.trans H; rw [hy451]; with_reducible exact H2_) | (have H2_ := (Option.bind_some _ _).symm.trans H; with_reducible exact H2_) | with_reducible exact H | (rw [hy451]; exact H) | exact H
                          have Ny451 := Aside0.mk hy451
                          clear hy451
                          replace H := Option.bind_eq_some_iff.mp H
                          obtain ⟨t455, A310, H⟩ := H
                          replace H : (if t455 = true then (if (t442.length : Int) < (t448.length : Int) then (if (rd t448 (t442.length : Int)) = 0 then (if 0 ≤ (wrap64 ((t442.length : Int) + 1)) then (if (wrap64 ((t442.length : Int) + 1)) ≤ (t448.length : Int) then ((abugidalaw17_is.f kj15 (t448.drop ((wrap64 ((t442.length : Int) + 1)) : Int).toNat) t445).bind fun t461 => (some t461)) else (none)) else (none)) else (some false)) else (none)) else (some false)) = some r := H
                          have A31 := Aside0.mk A310
                          clear A310
                          by_cases c32 : t455 = true
                          · subst c32
                            have H1 : (if (t442.length : Int) < (t448.length : Int) then (if (rd t448 (t442.length : Int)) = 0 then (if 0 ≤ (wrap64 ((t442.length : Int) + 1)) then (if (wrap64 ((t442.length : Int) + 1)) ≤ (t448.length : Int) then ((abugidalaw17_is.f kj15 (t448.drop ((wrap64 ((t442.length : Int) + 1)) : Int).toNat) t445).bind fun t461 => (some t461)) else (none)) else (none)) else (some false)) else (none)) = some r := by rw [if_pos rfl] at H; exact H
                            clear H
                            have H := H1
                            clear H1
                            by_cases c33 : (t442.length : Int) < (t448.length : Int)
                            · rw [if_pos c33] at H
                              have c33b0 : decide ((t442.length : Int) < (t448.length : Int)) = true := decide_eq_true c33
                              have c33b1 : decide (t442.length < t448.length) = true := decide_eq_true (Int.ofNat_lt.mp c33)
                              clear c33
                              by_cases c34 : (rd t448 (t442.length : Int)) = 0
                              · rw [if_pos c34] at H
                                have c34b0 : ((rd t448 (t442.length : Int)) == 0) = true := beq_iff_eq.mpr c34
                                have c34b1 : ((rd t448 (t442.length : Int)) != 0) = false := bne_eq_false_iff_eq.mpr c34
                                clear c34
                                obtain ⟨ji35, hji35⟩ : ∃ j_ : Int, (wrap64 ((t442.length : Int) + 1)) = j_ := ⟨_, rfl⟩
                                replace H : (if 0 ≤ (ji35) then (if (ji35) ≤ (t448.length : Int) then ((abugidalaw17_is.f kj15 (t448.drop ((ji35) : Int).toNat) t445).bind fun t461 => (some t461)) else (none)) else (none)) = some r := by first | (rw [hji35] at H; exact H) | (simp only [hji35] at H ⊢; exact H)
                                (try rw [hji35] at c27b0)
                                (try rw [hji35] at c27b1)
                                (try rw [hji35] at A22)
                                (try rw [hji35] at A23)
                                (try rw [hji35] at A26)
                                (try rw [hji35] at A31)
                                have hji35w : (IntKind.i64.wrap ((t442.length : Int) + 1)) = ji35 := (i64_w _).trans hji35
                                by_cases c36 : 0 ≤ (ji35)
                                · rw [if_pos c36] at H
                                  have c36b0 := eq_true c36
                                  have c36b1 : decide (0 ≤ (ji35)) = true := decide_eq_true c36
                                  clear c36
                                  by_cases c37 : (ji35) ≤ (t448.length : Int)
                                  · rw [if_pos c37] at H
                                    have c37b0 := eq_true c37
                                    have c37b1 : decide ((ji35) ≤ (t448.length : Int)) = true := decide_eq_true c37
                                    clear c37
                                    obtain ⟨y457, hy457⟩ : ∃ y_ : List Int, y_ = (t448.drop ((ji35) : Int).toNat) := ⟨_, rfl⟩
                                    replace H : ((abugidalaw17_is.f kj15 y457 t445).bind fun t461 => (some t461)) = some r := by first | (rw [hy457]; with_reducible exact H) | (have H2_ := (Option.bind_some _ _).symm.trans H; rw [hy457]; with_reducible exact H2_) | (have H2_ := (Option.bind_some _ _).symm.trans H; with_reducible exact H2_) | with_reducible exact H | (rw [hy457]; exact H) | exact H
                                    have Ny457 := Aside0.mk hy457
                                    clear hy457
                                    replace H := Option.bind_eq_some_iff.mp H
                                    obtain ⟨t461, A380, H⟩ := H
                                    replace H : (some t461) = some r := H
                                    have A38 := Aside0.mk A380
                                    clear A380
                                    obtain rfl := Option.some.inj H
                                    go_wp2_with (first | ((with_reducible refine gate_dst (N := 30) rfl ?_); (try (refine gate_guard (by rfl) ?_; dsimp only)); refine Kd.R_lit Kd.string _ 9 ?hg (N := 30) ?hd (xs := ([(⟨#[32]⟩ : ByteArray), (⟨#[10]⟩ : ByteArray), (⟨#[33]⟩ : ByteArray), (⟨#[45]⟩ : ByteArray)] : List ByteArray)) (inner := [.string (⟨#[32]⟩ : ByteArray), .string (⟨#[10]⟩ : ByteArray), .string (⟨#[33]⟩ : ByteArray), .string (⟨#[45]⟩ : ByteArray)]) (ok := fun _ => True) (okp := fun _ => True) ?hr ?hp (fun _ hk => hk) trivial (Below.refl _ _) (Nat.le_refl _) (by simp) ?_; (case hd => rfl); (case hg => rfl); (case hr => first | (go_simp; done) | (go_simp; rfl)); (case hp => exact (Reps.one (show Kd.M Kd.string _ _ _ (⟨#[32]⟩ : ByteArray) [.string (⟨#[32]⟩ : ByteArray)] from rfl) (Reps.one (show Kd.M Kd.string _ _ _ (⟨#[10]⟩ : ByteArray) [.string (⟨#[10]⟩ : ByteArray)] from rfl) (Reps.one (show Kd.M Kd.string _ _ _ (⟨#[33]⟩ : ByteArray) [.string (⟨#[33]⟩ : ByteArray)] from rfl) (Reps.one (show Kd.M Kd.string _ _ _ (⟨#[45]⟩ : ByteArray) [.string (⟨#[45]⟩ : ByteArray)] from rfl) (Reps.none _ _)))))); intro v439 w39 ho40 hb hg_ hnew_; clear hg_ hnew_; (first | rw [← Ny438.out] at ho40 | (simp only [Int.reduceToNat] at ho40; rw [← Ny438.out] at ho40)); have n0_ := Aside0.mk (Kd.R_lower ho40 (below_size (by repeat (first | (with_reducible first | exact HB.out | apply below_alloc | apply pw_below_drewN | apply below_drew1) | exact HB.out)))); have n1_ := Aside0.mk (below_step (by repeat (first | (with_reducible first | exact HB.out | apply below_alloc | apply pw_below_drewN | apply below_drew1) | exact HB.out)) hb); clear HB; have HO440 := n0_; have HB := n1_; clear n0_ n1_; clear hb ho40; obtain ⟨Ao41, co41, eo41⟩ := Kd.R_slice HO440.out; subst eo41; have p441 : 0 ≤ ((ji19) : Int) := of_decide_eq_true (by first | (with_reducible assumption) | assumption); have q441 : (ji19) < (y438.length : Int) := of_decide_eq_true (by first | (with_reducible assumption) | assumption); obtain ⟨ad441, e441, hx441_0⟩ := Kd.at_string (Kd.R_reads' HO440.out).2.2 (ji19) p441 q441; cases e441; replace p441 := eq_true p441; replace q441 := eq_true q441) | ((with_reducible refine gate_callee (f := 12) rfl ?_); refine goesL_ (some 36) rfl rfl Try.func12 (by kernel_rfl) rfl #[.string t435] rfl (by (try simp only [List.map_toArray, List.map_cons, List.map_nil]); first | done | rfl | (simp only [List.length_drop, List.length_take]; rfl)) ?_; (with_reducible refine (forms_Forms.calls kj15 t435 t442 _ A22.out).mono ?_); rintro e w42 ⟨v443, rfl, ho0, hb⟩; refine ⟨_, rfl, ?_⟩; have n0_ := Aside0.mk (Kd.R_below (by (with_reducible repeat (first | apply Kd.R_alloc | apply Kd.R_drewN | apply Kd.R_drew)); exact HO440.out) hb); have n1_ := Aside0.mk (Kd.R_lower ho0 (below_size (by repeat (first | (with_reducible first | exact HB.out | apply below_alloc | apply pw_below_drewN | apply below_drew1) | exact HB.out)))); have n2_ := Aside0.mk (below_step (by repeat (first | (with_reducible first | exact HB.out | apply below_alloc | apply pw_below_drewN | apply below_drew1) | exact HB.out)) hb); clear HO440; clear HB; have HO440 := n0_; have HO444 := n1_; have HB := n2_; clear n0_ n1_ n2_; (try clear hb); (try clear hb2); (try clear hk); (try clear hi); (try clear ho0)) | ((with_reducible refine gate_callee (f := 12) rfl ?_); refine goesL_ (some 38) rfl rfl Try.func12 (by kernel_rfl) rfl #[.string x9_15] rfl (by (try simp only [List.map_toArray, List.map_cons, List.map_nil]); first | done | rfl | (simp only [List.length_drop, List.length_take]; rfl)) ?_; (with_reducible refine (forms_Forms.calls kj15 x9_15 t445 _ A23.out).mono ?_); rintro e w43 ⟨v446, rfl, ho0, hb⟩; refine ⟨_, rfl, ?_⟩; have n0_ := Aside0.mk (Kd.R_below (by (with_reducible repeat (first | apply Kd.R_alloc | apply Kd.R_drewN | apply Kd.R_drew)); exact HO440.out) hb); have n1_ := Aside0.mk (Kd.R_elder' (by (with_reducible repeat (first | apply Kd.R_alloc | apply Kd.R_drewN | apply Kd.R_drew)); exact HO444.out) (Kd.R_base ho0) hb); have n2_ := Aside0.mk (Kd.R_lower (Kd.R_new' ho0 (Kd.R_lt (by (with_reducible repeat (first | apply Kd.R_alloc | apply Kd.R_drewN | apply Kd.R_drew)); exact HO444.out))) (below_size (by repeat (first | (with_reducible first | exact HB.out | apply below_alloc | apply pw_below_drewN | apply below_drew1) | exact HB.out)))); have n3_ := Aside0.mk (below_step (by repeat (first | (with_reducible first | exact HB.out | apply below_alloc | apply pw_below_drewN | apply below_drew1) | exact HB.out)) hb); clear HO440; clear HO444; clear HB; have HO440 := n0_; have HO444 := n1_; have HO447 := n2_; have HB := n3_; clear n0_ n1_ n2_ n3_; (try clear hb); (try clear hb2); (try clear hk); (try clear hi); (try clear ho0)) | ((with_reducible refine gate_callee (f := 12) rfl ?_); refine goesL_ (some 44) rfl rfl Try.func12 (by kernel_rfl) rfl #[.string ((t435 ++ (rdOf ByteArray.empty y438 (ji19))) ++ x9_15)] rfl (by (try simp only [List.map_toArray, List.map_cons, List.map_nil]); first | done | (simp only [hji19]; rfl) | rfl | (simp only [List.length_drop, List.length_take]; rfl)) ?_; (with_reducible refine (forms_Forms.calls kj15 ((t435 ++ (rdOf ByteArray.empty y438 (ji19))) ++ x9_15) t448 _ A26.out).mono ?_); rintro e w44 ⟨v449, rfl, ho0, hb⟩; refine ⟨_, rfl, ?_⟩; have n0_ := Aside0.mk (Kd.R_below (by (with_reducible repeat (first | apply Kd.R_alloc | apply Kd.R_drewN | apply Kd.R_drew)); exact HO440.out) hb); have n1_ := Aside0.mk (Kd.R_elder' (by (with_reducible repeat (first | apply Kd.R_alloc | apply Kd.R_drewN | apply Kd.R_drew)); exact HO444.out) (Kd.R_base ho0) hb); have n2_ := Aside0.mk (Kd.R_elder' (by (with_reducible repeat (first | apply Kd.R_alloc | apply Kd.R_drewN | apply Kd.R_drew)); exact HO447.out) (Kd.R_base ho0) hb); have n3_ := Aside0.mk (Kd.R_lower (Kd.R_new' (Kd.R_new' ho0 (Kd.R_lt (by (with_reducible repeat (first | apply Kd.R_alloc | apply Kd.R_drewN | apply Kd.R_drew)); exact HO444.out))) (Kd.R_lt (by (with_reducible repeat (first | apply Kd.R_alloc | apply Kd.R_drewN | apply Kd.R_drew)); exact HO447.out))) (below_size (by repeat (first | (with_reducible first | exact HB.out | apply below_alloc | apply pw_below_drewN | apply below_drew1) | exact HB.out)))); have n4_ := Aside0.mk (below_step (by repeat (first | (with_reducible first | exact HB.out | apply below_alloc | apply pw_below_drewN | apply below_drew1) | exact HB.out)) hb); clear HO440; clear HO444; clear HO447; clear HB; have HO440 := n0_; have HO444 := n1_; have HO447 := n2_; have HO450 := n3_; have HB := n4_; clear n0_ n1_ n2_ n3_ n4_; (try clear hb); (try clear hb2); (try clear hk); (try clear hi); (try clear ho0); obtain ⟨Ao45, co45, eo45⟩ := Kd.R_slice HO450.out; subst eo45; obtain ⟨Ao46, co46, eo46⟩ := Kd.R_slice HO444.out; subst eo46; obtain ⟨Ao47, co47, eo47⟩ := Kd.R_slice HO447.out; subst eo47; have q48 : ((t442.length : Int) : Int) ≤ ((t448.length : Int) : Int) := of_decide_eq_true (by first | (with_reducible assumption) | assumption); obtain ⟨i048, hi048, _, hsz48, _⟩ := info_parts info3; have hroom48 : t448.length ≤ co45 := (Kd.R_reads' HO450.out).2.1; have hC48 : Kd.C (Kd.int .i64) _ Ao45 t448.length t448 := (Kd.R_reads' HO450.out).2.2; have hcut48 := cut_to (P := Try.prog) 22 3 .i64 Try.underlying22 hi048 Ao45 t448.length co45 (t442.length : Int) (of_decide_eq_true (by first | (with_reducible assumption) | assumption)) q48 hroom48; have hr48 := Kd.C_take (m := ((t442.length : Int) : Int).toNat) hC48 (by omega); have hy48 : y451.length = ((t442.length : Int) : Int).toNat := (by rw [Ny451.out, List.length_take]; omega); rw [← Ny451.out] at hr48; rw [← hy48] at hcut48; have HR454 := Aside0.mk hr48; have HC454 := Aside0.mk (show y451.length ≤ co45 from by omega); clear hr48 hC48 hroom48 hi048 hsz48; have KY48 := Aside0.mk hy48; clear hy48; have KL48 := Aside0.mk (show ((t442.length : Int) : Int).toNat ≤ t448.length from by omega); replace q48 := eq_true q48) | (go_at_call 11; (with_reducible refine (abugidalaw17_is.calls kj15 _ _ y451 _ _ t442 true _ ?side1 ?side2 ?side3 ?side4 A31.out).mono ?_); (case side1 => repeat (first | exact (by repeat (first | (with_reducible exact HR454.out) | (with_reducible refine Kd.C_alloc ?_ _) | (with_reducible refine Kd.C_drewN ?_ _) | (with_reducible refine Kd.C_drew ?_) | exact HR454.out)) | (with_reducible refine Kd.C_alloc ?_ _) | (with_reducible refine Kd.C_drewN ?_ _) | (with_reducible refine Kd.C_drew ?_))); (case side2 => exact HC454.out); (case side3 => repeat (first | exact (Kd.R_reads' HO444.out).2.2 | (with_reducible refine Kd.C_alloc ?_ _) | (with_reducible refine Kd.C_drewN ?_ _) | (with_reducible refine Kd.C_drew ?_))); (case side4 => exact (Kd.R_reads' HO444.out).2.1); rintro e w' ⟨rfl, ⟨nd, rfl⟩⟩; have p456 : 0 ≤ ((t442.length : Int) : Int) := of_decide_eq_true (by first | (with_reducible assumption) | assumption); have q456 : (t442.length : Int) < (t448.length : Int) := of_decide_eq_true (by first | (with_reducible assumption) | assumption); obtain ⟨ad456, e456, hx456_0⟩ := Kd.at_int (Kd.R_reads' HO450.out).2.2 (t442.length : Int) p456 q456; cases e456; (try simp only [Go.IntWalk.toNatUp] at hx456_0); replace p456 := eq_true p456; replace q456 := eq_true q456; have q49 : ((ji35) : Int) ≤ ((t448.length : Int) : Int) := of_decide_eq_true (by first | (with_reducible assumption) | assumption); obtain ⟨i049, hi049, _, hsz49, _⟩ := info_parts info3; have hroom49 : t448.length ≤ co45 := (Kd.R_reads' HO450.out).2.1; have hC49 : Kd.C (Kd.int .i64) _ (some ad456) t448.length t448 := (Kd.R_reads' HO450.out).2.2; have q049 : (0 : Int) ≤ ((ji35) : Int) := of_decide_eq_true (by first | (with_reducible assumption) | assumption); have hcut49 := cut_from (P := Try.prog) 22 3 .i64 Try.underlying22 hi049 1 hsz49 (some ad456) t448.length co45 (ji35) q049 q49; have hr49 := Kd.C_drop (m := ((ji35) : Int).toNat) (c := co45) hC49 (by omega) hroom49; obtain ⟨A49, hA49⟩ : ∃ A1, A1 = (if co45 = ((ji35) : Int).toNat then (some ad456) else ((some ad456) : Option Addr).map (·.add (((ji35) : Int).toNat * 1))) := ⟨_, rfl⟩; obtain ⟨c49, hc49⟩ : ∃ c1, c1 = co45 - ((ji35) : Int).toNat := ⟨_, rfl⟩; have hy49 : y457.length = t448.length - ((ji35) : Int).toNat := (by rw [Ny457.out, List.length_drop] <;> omega); rw [show (t448).drop ((ji35) : Int).toNat = y457 from Ny457.out.symm] at hr49; replace hr49 : Kd.C (Kd.int .i64) _ A49 y457.length y457 := (by rw [hA49]; exact hr49); rw [← hy49, ← hA49, ← hc49] at hcut49; have HR460 := Aside0.mk hr49; have HC460 := Aside0.mk (show y457.length ≤ c49 from by rw [hy49, hc49]; exact Nat.sub_le_sub_right hroom49 _); clear hr49 hC49 hroom49 hi049 hsz49 hc49; have KY49 := Aside0.mk hy49; have KA49 := Aside0.mk hA49; clear hy49 hA49; have KL49 := Aside0.mk (show ((ji35) : Int).toNat ≤ t448.length from by omega); replace q49 := eq_true q49) | (go_at_call 11; (with_reducible refine (abugidalaw17_is.calls kj15 _ _ y457 _ _ t445 t461 _ ?side1 ?side2 ?side3 ?side4 A38.out).mono ?_); (case side1 => repeat (first | exact (by repeat (first | (with_reducible exact HR460.out) | (with_reducible refine Kd.C_alloc ?_ _) | (with_reducible refine Kd.C_drewN ?_ _) | (with_reducible refine Kd.C_drew ?_) | exact HR460.out)) | (with_reducible refine Kd.C_alloc ?_ _) | (with_reducible refine Kd.C_drewN ?_ _) | (with_reducible refine Kd.C_drew ?_))); (case side2 => exact HC460.out); (case side3 => repeat (first | exact (Kd.R_reads' HO447.out).2.2 | (with_reducible refine Kd.C_alloc ?_ _) | (with_reducible refine Kd.C_drewN ?_ _) | (with_reducible refine Kd.C_drew ?_))); (case side4 => exact (Kd.R_reads' HO447.out).2.1); rintro e w' ⟨rfl, ⟨nd, rfl⟩⟩))
                                    go_ret
                                    exact ⟨by first | rfl | (simp [errW_none, errW_some] <;> rfl) | (simp only [← hji19, ← hji35]; first | rfl | (simp [errW_none, errW_some] <;> rfl)) | (simp [*, errW_none, errW_some] <;> rfl), by repeat (first | (with_reducible first | exact HB.out | apply below_alloc | apply pw_below_drewN | apply below_drew1) | exact HB.out)⟩
                                  · rw [if_neg c37] at H
                                    exact absurd H (by simp)
                                · rw [if_neg c36] at H
                                  exact absurd H (by simp)
                              · rw [if_neg c34] at H
                                have c34b0 : ((rd t448 (t442.length : Int)) == 0) = false := beq_eq_false_iff_ne.mpr c34
                                have c34b1 : ((rd t448 (t442.length : Int)) != 0) = true := bne_iff_ne.mpr c34
                                obtain rfl := Option.some.inj H
                                go_wp2_with (first | ((with_reducible refine gate_dst (N := 30) rfl ?_); (try (refine gate_guard (by rfl) ?_; dsimp only)); refine Kd.R_lit Kd.string _ 9 ?hg (N := 30) ?hd (xs := ([(⟨#[32]⟩ : ByteArray), (⟨#[10]⟩ : ByteArray), (⟨#[33]⟩ : ByteArray), (⟨#[45]⟩ : ByteArray)] : List ByteArray)) (inner := [.string (⟨#[32]⟩ : ByteArray), .string (⟨#[10]⟩ : ByteArray), .string (⟨#[33]⟩ : ByteArray), .string (⟨#[45]⟩ : ByteArray)]) (ok := fun _ => True) (okp := fun _ => True) ?hr ?hp (fun _ hk => hk) trivial (Below.refl _ _) (Nat.le_refl _) (by simp) ?_; (case hd => rfl); (case hg => rfl); (case hr => first | (go_simp; done) | (go_simp; rfl)); (case hp => exact (Reps.one (show Kd.M Kd.string _ _ _ (⟨#[32]⟩ : ByteArray) [.string (⟨#[32]⟩ : ByteArray)] from rfl) (Reps.one (show Kd.M Kd.string _ _ _ (⟨#[10]⟩ : ByteArray) [.string (⟨#[10]⟩ : ByteArray)] from rfl) (Reps.one (show Kd.M Kd.string _ _ _ (⟨#[33]⟩ : ByteArray) [.string (⟨#[33]⟩ : ByteArray)] from rfl) (Reps.one (show Kd.M Kd.string _ _ _ (⟨#[45]⟩ : ByteArray) [.string (⟨#[45]⟩ : ByteArray)] from rfl) (Reps.none _ _)))))); intro v439 w50 ho51 hb hg_ hnew_; clear hg_ hnew_; (first | rw [← Ny438.out] at ho51 | (simp only [Int.reduceToNat] at ho51; rw [← Ny438.out] at ho51)); have n0_ := Aside0.mk (Kd.R_lower ho51 (below_size (by repeat (first | (with_reducible first | exact HB.out | apply below_alloc | apply pw_below_drewN | apply below_drew1) | exact HB.out)))); have n1_ := Aside0.mk (below_step (by repeat (first | (with_reducible first | exact HB.out | apply below_alloc | apply pw_below_drewN | apply below_drew1) | exact HB.out)) hb); clear HB; have HO440 := n0_; have HB := n1_; clear n0_ n1_; clear hb ho51; obtain ⟨Ao52, co52, eo52⟩ := Kd.R_slice HO440.out; subst eo52; have p441 : 0 ≤ ((ji19) : Int) := of_decide_eq_true (by first | (with_reducible assumption) | assumption); have q441 : (ji19) < (y438.length : Int) := of_decide_eq_true (by first | (with_reducible assumption) | assumption); obtain ⟨ad441, e441, hx441_0⟩ := Kd.at_string (Kd.R_reads' HO440.out).2.2 (ji19) p441 q441; cases e441; replace p441 := eq_true p441; replace q441 := eq_true q441) | ((with_reducible refine gate_callee (f := 12) rfl ?_); refine goesL_ (some 36) rfl rfl Try.func12 (by kernel_rfl) rfl #[.string t435] rfl (by (try simp only [List.map_toArray, List.map_cons, List.map_nil]); first | done | rfl | (simp only [List.length_drop, List.length_take]; rfl)) ?_; (with_reducible refine (forms_Forms.calls kj15 t435 t442 _ A22.out).mono ?_); rintro e w53 ⟨v443, rfl, ho0, hb⟩; refine ⟨_, rfl, ?_⟩; have n0_ := Aside0.mk (Kd.R_below (by (with_reducible repeat (first | apply Kd.R_alloc | apply Kd.R_drewN | apply Kd.R_drew)); exact HO440.out) hb); have n1_ := Aside0.mk (Kd.R_lower ho0 (below_size (by repeat (first | (with_reducible first | exact HB.out | apply below_alloc | apply pw_below_drewN | apply below_drew1) | exact HB.out)))); have n2_ := Aside0.mk (below_step (by repeat (first | (with_reducible first | exact HB.out | apply below_alloc | apply pw_below_drewN | apply below_drew1) | exact HB.out)) hb); clear HO440; clear HB; have HO440 := n0_; have HO444 := n1_; have HB := n2_; clear n0_ n1_ n2_; (try clear hb); (try clear hb2); (try clear hk); (try clear hi); (try clear ho0)) | ((with_reducible refine gate_callee (f := 12) rfl ?_); refine goesL_ (some 38) rfl rfl Try.func12 (by kernel_rfl) rfl #[.string x9_15] rfl (by (try simp only [List.map_toArray, List.map_cons, List.map_nil]); first | done | rfl | (simp only [List.length_drop, List.length_take]; rfl)) ?_; (with_reducible refine (forms_Forms.calls kj15 x9_15 t445 _ A23.out).mono ?_); rintro e w54 ⟨v446, rfl, ho0, hb⟩; refine ⟨_, rfl, ?_⟩; have n0_ := Aside0.mk (Kd.R_below (by (with_reducible repeat (first | apply Kd.R_alloc | apply Kd.R_drewN | apply Kd.R_drew)); exact HO440.out) hb); have n1_ := Aside0.mk (Kd.R_elder' (by (with_reducible repeat (first | apply Kd.R_alloc | apply Kd.R_drewN | apply Kd.R_drew)); exact HO444.out) (Kd.R_base ho0) hb); have n2_ := Aside0.mk (Kd.R_lower (Kd.R_new' ho0 (Kd.R_lt (by (with_reducible repeat (first | apply Kd.R_alloc | apply Kd.R_drewN | apply Kd.R_drew)); exact HO444.out))) (below_size (by repeat (first | (with_reducible first | exact HB.out | apply below_alloc | apply pw_below_drewN | apply below_drew1) | exact HB.out)))); have n3_ := Aside0.mk (below_step (by repeat (first | (with_reducible first | exact HB.out | apply below_alloc | apply pw_below_drewN | apply below_drew1) | exact HB.out)) hb); clear HO440; clear HO444; clear HB; have HO440 := n0_; have HO444 := n1_; have HO447 := n2_; have HB := n3_; clear n0_ n1_ n2_ n3_; (try clear hb); (try clear hb2); (try clear hk); (try clear hi); (try clear ho0)) | ((with_reducible refine gate_callee (f := 12) rfl ?_); refine goesL_ (some 44) rfl rfl Try.func12 (by kernel_rfl) rfl #[.string ((t435 ++ (rdOf ByteArray.empty y438 (ji19))) ++ x9_15)] rfl (by (try simp only [List.map_toArray, List.map_cons, List.map_nil]); first | done | (simp only [hji19]; rfl) | rfl | (simp only [List.length_drop, List.length_take]; rfl)) ?_; (with_reducible refine (forms_Forms.calls kj15 ((t435 ++ (rdOf ByteArray.empty y438 (ji19))) ++ x9_15) t448 _ A26.out).mono ?_); rintro e w55 ⟨v449, rfl, ho0, hb⟩; refine ⟨_, rfl, ?_⟩; have n0_ := Aside0.mk (Kd.R_below (by (with_reducible repeat (first | apply Kd.R_alloc | apply Kd.R_drewN | apply Kd.R_drew)); exact HO440.out) hb); have n1_ := Aside0.mk (Kd.R_elder' (by (with_reducible repeat (first | apply Kd.R_alloc | apply Kd.R_drewN | apply Kd.R_drew)); exact HO444.out) (Kd.R_base ho0) hb); have n2_ := Aside0.mk (Kd.R_elder' (by (with_reducible repeat (first | apply Kd.R_alloc | apply Kd.R_drewN | apply Kd.R_drew)); exact HO447.out) (Kd.R_base ho0) hb); have n3_ := Aside0.mk (Kd.R_lower (Kd.R_new' (Kd.R_new' ho0 (Kd.R_lt (by (with_reducible repeat (first | apply Kd.R_alloc | apply Kd.R_drewN | apply Kd.R_drew)); exact HO444.out))) (Kd.R_lt (by (with_reducible repeat (first | apply Kd.R_alloc | apply Kd.R_drewN | apply Kd.R_drew)); exact HO447.out))) (below_size (by repeat (first | (with_reducible first | exact HB.out | apply below_alloc | apply pw_below_drewN | apply below_drew1) | exact HB.out)))); have n4_ := Aside0.mk (below_step (by repeat (first | (with_reducible first | exact HB.out | apply below_alloc | apply pw_below_drewN | apply below_drew1) | exact HB.out)) hb); clear HO440; clear HO444; clear HO447; clear HB; have HO440 := n0_; have HO444 := n1_; have HO447 := n2_; have HO450 := n3_; have HB := n4_; clear n0_ n1_ n2_ n3_ n4_; (try clear hb); (try clear hb2); (try clear hk); (try clear hi); (try clear ho0); obtain ⟨Ao56, co56, eo56⟩ := Kd.R_slice HO450.out; subst eo56; obtain ⟨Ao57, co57, eo57⟩ := Kd.R_slice HO444.out; subst eo57; obtain ⟨Ao58, co58, eo58⟩ := Kd.R_slice HO447.out; subst eo58; have q59 : ((t442.length : Int) : Int) ≤ ((t448.length : Int) : Int) := of_decide_eq_true (by first | (with_reducible assumption) | assumption); obtain ⟨i059, hi059, _, hsz59, _⟩ := info_parts info3; have hroom59 : t448.length ≤ co56 := (Kd.R_reads' HO450.out).2.1; have hC59 : Kd.C (Kd.int .i64) _ Ao56 t448.length t448 := (Kd.R_reads' HO450.out).2.2; have hcut59 := cut_to (P := Try.prog) 22 3 .i64 Try.underlying22 hi059 Ao56 t448.length co56 (t442.length : Int) (of_decide_eq_true (by first | (with_reducible assumption) | assumption)) q59 hroom59; have hr59 := Kd.C_take (m := ((t442.length : Int) : Int).toNat) hC59 (by omega); have hy59 : y451.length = ((t442.length : Int) : Int).toNat := (by rw [Ny451.out, List.length_take]; omega); rw [← Ny451.out] at hr59; rw [← hy59] at hcut59; have HR454 := Aside0.mk hr59; have HC454 := Aside0.mk (show y451.length ≤ co56 from by omega); clear hr59 hC59 hroom59 hi059 hsz59; have KY59 := Aside0.mk hy59; clear hy59; have KL59 := Aside0.mk (show ((t442.length : Int) : Int).toNat ≤ t448.length from by omega); replace q59 := eq_true q59) | (go_at_call 11; (with_reducible refine (abugidalaw17_is.calls kj15 _ _ y451 _ _ t442 true _ ?side1 ?side2 ?side3 ?side4 A31.out).mono ?_); (case side1 => repeat (first | exact (by repeat (first | (with_reducible exact HR454.out) | (with_reducible refine Kd.C_alloc ?_ _) | (with_reducible refine Kd.C_drewN ?_ _) | (with_reducible refine Kd.C_drew ?_) | exact HR454.out)) | (with_reducible refine Kd.C_alloc ?_ _) | (with_reducible refine Kd.C_drewN ?_ _) | (with_reducible refine Kd.C_drew ?_))); (case side2 => exact HC454.out); (case side3 => repeat (first | exact (Kd.R_reads' HO444.out).2.2 | (with_reducible refine Kd.C_alloc ?_ _) | (with_reducible refine Kd.C_drewN ?_ _) | (with_reducible refine Kd.C_drew ?_))); (case side4 => exact (Kd.R_reads' HO444.out).2.1); rintro e w' ⟨rfl, ⟨nd, rfl⟩⟩; have p456 : 0 ≤ ((t442.length : Int) : Int) := of_decide_eq_true (by first | (with_reducible assumption) | assumption); have q456 : (t442.length : Int) < (t448.length : Int) := of_decide_eq_true (by first | (with_reducible assumption) | assumption); obtain ⟨ad456, e456, hx456_0⟩ := Kd.at_int (Kd.R_reads' HO450.out).2.2 (t442.length : Int) p456 q456; cases e456; (try simp only [Go.IntWalk.toNatUp] at hx456_0); replace p456 := eq_true p456; replace q456 := eq_true q456))
                                go_ret
                                exact ⟨by first | rfl | (simp [errW_none, errW_some] <;> rfl) | (simp only [← hji19]; first | rfl | (simp [errW_none, errW_some] <;> rfl)) | (simp [*, errW_none, errW_some] <;> rfl), by repeat (first | (with_reducible first | exact HB.out | apply below_alloc | apply pw_below_drewN | apply below_drew1) | exact HB.out)⟩
                            · rw [if_neg c33] at H
                              exact absurd H (by simp)
                          · replace c32 := Bool.eq_false_iff.mpr c32
                            subst c32
                            have H1 : (some false) = some r := by rw [if_neg (show ¬ (false = true) by decide)] at H; exact H
                            clear H
                            have H := H1
                            clear H1
                            obtain rfl := Option.some.inj H
                            go_wp2_with (first | ((with_reducible refine gate_dst (N := 30) rfl ?_); (try (refine gate_guard (by rfl) ?_; dsimp only)); refine Kd.R_lit Kd.string _ 9 ?hg (N := 30) ?hd (xs := ([(⟨#[32]⟩ : ByteArray), (⟨#[10]⟩ : ByteArray), (⟨#[33]⟩ : ByteArray), (⟨#[45]⟩ : ByteArray)] : List ByteArray)) (inner := [.string (⟨#[32]⟩ : ByteArray), .string (⟨#[10]⟩ : ByteArray), .string (⟨#[33]⟩ : ByteArray), .string (⟨#[45]⟩ : ByteArray)]) (ok := fun _ => True) (okp := fun _ => True) ?hr ?hp (fun _ hk => hk) trivial (Below.refl _ _) (Nat.le_refl _) (by simp) ?_; (case hd => rfl); (case hg => rfl); (case hr => first | (go_simp; done) | (go_simp; rfl)); (case hp => exact (Reps.one (show Kd.M Kd.string _ _ _ (⟨#[32]⟩ : ByteArray) [.string (⟨#[32]⟩ : ByteArray)] from rfl) (Reps.one (show Kd.M Kd.string _ _ _ (⟨#[10]⟩ : ByteArray) [.string (⟨#[10]⟩ : ByteArray)] from rfl) (Reps.one (show Kd.M Kd.string _ _ _ (⟨#[33]⟩ : ByteArray) [.string (⟨#[33]⟩ : ByteArray)] from rfl) (Reps.one (show Kd.M Kd.string _ _ _ (⟨#[45]⟩ : ByteArray) [.string (⟨#[45]⟩ : ByteArray)] from rfl) (Reps.none _ _)))))); intro v439 w60 ho61 hb hg_ hnew_; clear hg_ hnew_; (first | rw [← Ny438.out] at ho61 | (simp only [Int.reduceToNat] at ho61; rw [← Ny438.out] at ho61)); have n0_ := Aside0.mk (Kd.R_lower ho61 (below_size (by repeat (first | (with_reducible first | exact HB.out | apply below_alloc | apply pw_below_drewN | apply below_drew1) | exact HB.out)))); have n1_ := Aside0.mk (below_step (by repeat (first | (with_reducible first | exact HB.out | apply below_alloc | apply pw_below_drewN | apply below_drew1) | exact HB.out)) hb); clear HB; have HO440 := n0_; have HB := n1_; clear n0_ n1_; clear hb ho61; obtain ⟨Ao62, co62, eo62⟩ := Kd.R_slice HO440.out; subst eo62; have p441 : 0 ≤ ((ji19) : Int) := of_decide_eq_true (by first | (with_reducible assumption) | assumption); have q441 : (ji19) < (y438.length : Int) := of_decide_eq_true (by first | (with_reducible assumption) | assumption); obtain ⟨ad441, e441, hx441_0⟩ := Kd.at_string (Kd.R_reads' HO440.out).2.2 (ji19) p441 q441; cases e441; replace p441 := eq_true p441; replace q441 := eq_true q441) | ((with_reducible refine gate_callee (f := 12) rfl ?_); refine goesL_ (some 36) rfl rfl Try.func12 (by kernel_rfl) rfl #[.string t435] rfl (by (try simp only [List.map_toArray, List.map_cons, List.map_nil]); first | done | rfl | (simp only [List.length_drop, List.length_take]; rfl)) ?_; (with_reducible refine (forms_Forms.calls kj15 t435 t442 _ A22.out).mono ?_); rintro e w63 ⟨v443, rfl, ho0, hb⟩; refine ⟨_, rfl, ?_⟩; have n0_ := Aside0.mk (Kd.R_below (by (with_reducible repeat (first | apply Kd.R_alloc | apply Kd.R_drewN | apply Kd.R_drew)); exact HO440.out) hb); have n1_ := Aside0.mk (Kd.R_lower ho0 (below_size (by repeat (first | (with_reducible first | exact HB.out | apply below_alloc | apply pw_below_drewN | apply below_drew1) | exact HB.out)))); have n2_ := Aside0.mk (below_step (by repeat (first | (with_reducible first | exact HB.out | apply below_alloc | apply pw_below_drewN | apply below_drew1) | exact HB.out)) hb); clear HO440; clear HB; have HO440 := n0_; have HO444 := n1_; have HB := n2_; clear n0_ n1_ n2_; (try clear hb); (try clear hb2); (try clear hk); (try clear hi); (try clear ho0)) | ((with_reducible refine gate_callee (f := 12) rfl ?_); refine goesL_ (some 38) rfl rfl Try.func12 (by kernel_rfl) rfl #[.string x9_15] rfl (by (try simp only [List.map_toArray, List.map_cons, List.map_nil]); first | done | rfl | (simp only [List.length_drop, List.length_take]; rfl)) ?_; (with_reducible refine (forms_Forms.calls kj15 x9_15 t445 _ A23.out).mono ?_); rintro e w64 ⟨v446, rfl, ho0, hb⟩; refine ⟨_, rfl, ?_⟩; have n0_ := Aside0.mk (Kd.R_below (by (with_reducible repeat (first | apply Kd.R_alloc | apply Kd.R_drewN | apply Kd.R_drew)); exact HO440.out) hb); have n1_ := Aside0.mk (Kd.R_elder' (by (with_reducible repeat (first | apply Kd.R_alloc | apply Kd.R_drewN | apply Kd.R_drew)); exact HO444.out) (Kd.R_base ho0) hb); have n2_ := Aside0.mk (Kd.R_lower (Kd.R_new' ho0 (Kd.R_lt (by (with_reducible repeat (first | apply Kd.R_alloc | apply Kd.R_drewN | apply Kd.R_drew)); exact HO444.out))) (below_size (by repeat (first | (with_reducible first | exact HB.out | apply below_alloc | apply pw_below_drewN | apply below_drew1) | exact HB.out)))); have n3_ := Aside0.mk (below_step (by repeat (first | (with_reducible first | exact HB.out | apply below_alloc | apply pw_below_drewN | apply below_drew1) | exact HB.out)) hb); clear HO440; clear HO444; clear HB; have HO440 := n0_; have HO444 := n1_; have HO447 := n2_; have HB := n3_; clear n0_ n1_ n2_ n3_; (try clear hb); (try clear hb2); (try clear hk); (try clear hi); (try clear ho0)) | ((with_reducible refine gate_callee (f := 12) rfl ?_); refine goesL_ (some 44) rfl rfl Try.func12 (by kernel_rfl) rfl #[.string ((t435 ++ (rdOf ByteArray.empty y438 (ji19))) ++ x9_15)] rfl (by (try simp only [List.map_toArray, List.map_cons, List.map_nil]); first | done | (simp only [hji19]; rfl) | rfl | (simp only [List.length_drop, List.length_take]; rfl)) ?_; (with_reducible refine (forms_Forms.calls kj15 ((t435 ++ (rdOf ByteArray.empty y438 (ji19))) ++ x9_15) t448 _ A26.out).mono ?_); rintro e w65 ⟨v449, rfl, ho0, hb⟩; refine ⟨_, rfl, ?_⟩; have n0_ := Aside0.mk (Kd.R_below (by (with_reducible repeat (first | apply Kd.R_alloc | apply Kd.R_drewN | apply Kd.R_drew)); exact HO440.out) hb); have n1_ := Aside0.mk (Kd.R_elder' (by (with_reducible repeat (first | apply Kd.R_alloc | apply Kd.R_drewN | apply Kd.R_drew)); exact HO444.out) (Kd.R_base ho0) hb); have n2_ := Aside0.mk (Kd.R_elder' (by (with_reducible repeat (first | apply Kd.R_alloc | apply Kd.R_drewN | apply Kd.R_drew)); exact HO447.out) (Kd.R_base ho0) hb); have n3_ := Aside0.mk (Kd.R_lower (Kd.R_new' (Kd.R_new' ho0 (Kd.R_lt (by (with_reducible repeat (first | apply Kd.R_alloc | apply Kd.R_drewN | apply Kd.R_drew)); exact HO444.out))) (Kd.R_lt (by (with_reducible repeat (first | apply Kd.R_alloc | apply Kd.R_drewN | apply Kd.R_drew)); exact HO447.out))) (below_size (by repeat (first | (with_reducible first | exact HB.out | apply below_alloc | apply pw_below_drewN | apply below_drew1) | exact HB.out)))); have n4_ := Aside0.mk (below_step (by repeat (first | (with_reducible first | exact HB.out | apply below_alloc | apply pw_below_drewN | apply below_drew1) | exact HB.out)) hb); clear HO440; clear HO444; clear HO447; clear HB; have HO440 := n0_; have HO444 := n1_; have HO447 := n2_; have HO450 := n3_; have HB := n4_; clear n0_ n1_ n2_ n3_ n4_; (try clear hb); (try clear hb2); (try clear hk); (try clear hi); (try clear ho0); obtain ⟨Ao66, co66, eo66⟩ := Kd.R_slice HO450.out; subst eo66; obtain ⟨Ao67, co67, eo67⟩ := Kd.R_slice HO444.out; subst eo67; obtain ⟨Ao68, co68, eo68⟩ := Kd.R_slice HO447.out; subst eo68; have q69 : ((t442.length : Int) : Int) ≤ ((t448.length : Int) : Int) := of_decide_eq_true (by first | (with_reducible assumption) | assumption); obtain ⟨i069, hi069, _, hsz69, _⟩ := info_parts info3; have hroom69 : t448.length ≤ co66 := (Kd.R_reads' HO450.out).2.1; have hC69 : Kd.C (Kd.int .i64) _ Ao66 t448.length t448 := (Kd.R_reads' HO450.out).2.2; have hcut69 := cut_to (P := Try.prog) 22 3 .i64 Try.underlying22 hi069 Ao66 t448.length co66 (t442.length : Int) (of_decide_eq_true (by first | (with_reducible assumption) | assumption)) q69 hroom69; have hr69 := Kd.C_take (m := ((t442.length : Int) : Int).toNat) hC69 (by omega); have hy69 : y451.length = ((t442.length : Int) : Int).toNat := (by rw [Ny451.out, List.length_take]; omega); rw [← Ny451.out] at hr69; rw [← hy69] at hcut69; have HR454 := Aside0.mk hr69; have HC454 := Aside0.mk (show y451.length ≤ co66 from by omega); clear hr69 hC69 hroom69 hi069 hsz69; have KY69 := Aside0.mk hy69; clear hy69; have KL69 := Aside0.mk (show ((t442.length : Int) : Int).toNat ≤ t448.length from by omega); replace q69 := eq_true q69) | (go_at_call 11; (with_reducible refine (abugidalaw17_is.calls kj15 _ _ y451 _ _ t442 false _ ?side1 ?side2 ?side3 ?side4 A31.out).mono ?_); (case side1 => repeat (first | exact (by repeat (first | (with_reducible exact HR454.out) | (with_reducible refine Kd.C_alloc ?_ _) | (with_reducible refine Kd.C_drewN ?_ _) | (with_reducible refine Kd.C_drew ?_) | exact HR454.out)) | (with_reducible refine Kd.C_alloc ?_ _) | (with_reducible refine Kd.C_drewN ?_ _) | (with_reducible refine Kd.C_drew ?_))); (case side2 => exact HC454.out); (case side3 => repeat (first | exact (Kd.R_reads' HO444.out).2.2 | (with_reducible refine Kd.C_alloc ?_ _) | (with_reducible refine Kd.C_drewN ?_ _) | (with_reducible refine Kd.C_drew ?_))); (case side4 => exact (Kd.R_reads' HO444.out).2.1); rintro e w' ⟨rfl, ⟨nd, rfl⟩⟩))
                            go_ret
                            exact ⟨by first | rfl | (simp [errW_none, errW_some] <;> rfl) | (simp only [← hji19]; first | rfl | (simp [errW_none, errW_some] <;> rfl)) | (simp [*, errW_none, errW_some] <;> rfl), by repeat (first | (with_reducible first | exact HB.out | apply below_alloc | apply pw_below_drewN | apply below_drew1) | exact HB.out)⟩
                        · rw [if_neg c30] at H
                          exact absurd H (by simp)
                      · rw [if_neg c29] at H
                        exact absurd H (by simp)
                    · replace c28 := Bool.eq_false_iff.mpr c28
                      subst c28
                      have H1 : (some false) = some r := by rw [if_neg (show ¬ (false = true) by decide)] at H; exact H
                      clear H
                      have H := H1
                      clear H1
                      obtain rfl := Option.some.inj H
                      go_wp2_with (first | ((with_reducible refine gate_dst (N := 30) rfl ?_); (try (refine gate_guard (by rfl) ?_; dsimp only)); refine Kd.R_lit Kd.string _ 9 ?hg (N := 30) ?hd (xs := ([(⟨#[32]⟩ : ByteArray), (⟨#[10]⟩ : ByteArray), (⟨#[33]⟩ : ByteArray), (⟨#[45]⟩ : ByteArray)] : List ByteArray)) (inner := [.string (⟨#[32]⟩ : ByteArray), .string (⟨#[10]⟩ : ByteArray), .string (⟨#[33]⟩ : ByteArray), .string (⟨#[45]⟩ : ByteArray)]) (ok := fun _ => True) (okp := fun _ => True) ?hr ?hp (fun _ hk => hk) trivial (Below.refl _ _) (Nat.le_refl _) (by simp) ?_; (case hd => rfl); (case hg => rfl); (case hr => first | (go_simp; done) | (go_simp; rfl)); (case hp => exact (Reps.one (show Kd.M Kd.string _ _ _ (⟨#[32]⟩ : ByteArray) [.string (⟨#[32]⟩ : ByteArray)] from rfl) (Reps.one (show Kd.M Kd.string _ _ _ (⟨#[10]⟩ : ByteArray) [.string (⟨#[10]⟩ : ByteArray)] from rfl) (Reps.one (show Kd.M Kd.string _ _ _ (⟨#[33]⟩ : ByteArray) [.string (⟨#[33]⟩ : ByteArray)] from rfl) (Reps.one (show Kd.M Kd.string _ _ _ (⟨#[45]⟩ : ByteArray) [.string (⟨#[45]⟩ : ByteArray)] from rfl) (Reps.none _ _)))))); intro v439 w70 ho71 hb hg_ hnew_; clear hg_ hnew_; (first | rw [← Ny438.out] at ho71 | (simp only [Int.reduceToNat] at ho71; rw [← Ny438.out] at ho71)); have n0_ := Aside0.mk (Kd.R_lower ho71 (below_size (by repeat (first | (with_reducible first | exact HB.out | apply below_alloc | apply pw_below_drewN | apply below_drew1) | exact HB.out)))); have n1_ := Aside0.mk (below_step (by repeat (first | (with_reducible first | exact HB.out | apply below_alloc | apply pw_below_drewN | apply below_drew1) | exact HB.out)) hb); clear HB; have HO440 := n0_; have HB := n1_; clear n0_ n1_; clear hb ho71; obtain ⟨Ao72, co72, eo72⟩ := Kd.R_slice HO440.out; subst eo72; have p441 : 0 ≤ ((ji19) : Int) := of_decide_eq_true (by first | (with_reducible assumption) | assumption); have q441 : (ji19) < (y438.length : Int) := of_decide_eq_true (by first | (with_reducible assumption) | assumption); obtain ⟨ad441, e441, hx441_0⟩ := Kd.at_string (Kd.R_reads' HO440.out).2.2 (ji19) p441 q441; cases e441; replace p441 := eq_true p441; replace q441 := eq_true q441) | ((with_reducible refine gate_callee (f := 12) rfl ?_); refine goesL_ (some 36) rfl rfl Try.func12 (by kernel_rfl) rfl #[.string t435] rfl (by (try simp only [List.map_toArray, List.map_cons, List.map_nil]); first | done | rfl | (simp only [List.length_drop, List.length_take]; rfl)) ?_; (with_reducible refine (forms_Forms.calls kj15 t435 t442 _ A22.out).mono ?_); rintro e w73 ⟨v443, rfl, ho0, hb⟩; refine ⟨_, rfl, ?_⟩; have n0_ := Aside0.mk (Kd.R_below (by (with_reducible repeat (first | apply Kd.R_alloc | apply Kd.R_drewN | apply Kd.R_drew)); exact HO440.out) hb); have n1_ := Aside0.mk (Kd.R_lower ho0 (below_size (by repeat (first | (with_reducible first | exact HB.out | apply below_alloc | apply pw_below_drewN | apply below_drew1) | exact HB.out)))); have n2_ := Aside0.mk (below_step (by repeat (first | (with_reducible first | exact HB.out | apply below_alloc | apply pw_below_drewN | apply below_drew1) | exact HB.out)) hb); clear HO440; clear HB; have HO440 := n0_; have HO444 := n1_; have HB := n2_; clear n0_ n1_ n2_; (try clear hb); (try clear hb2); (try clear hk); (try clear hi); (try clear ho0)) | ((with_reducible refine gate_callee (f := 12) rfl ?_); refine goesL_ (some 38) rfl rfl Try.func12 (by kernel_rfl) rfl #[.string x9_15] rfl (by (try simp only [List.map_toArray, List.map_cons, List.map_nil]); first | done | rfl | (simp only [List.length_drop, List.length_take]; rfl)) ?_; (with_reducible refine (forms_Forms.calls kj15 x9_15 t445 _ A23.out).mono ?_); rintro e w74 ⟨v446, rfl, ho0, hb⟩; refine ⟨_, rfl, ?_⟩; have n0_ := Aside0.mk (Kd.R_below (by (with_reducible repeat (first | apply Kd.R_alloc | apply Kd.R_drewN | apply Kd.R_drew)); exact HO440.out) hb); have n1_ := Aside0.mk (Kd.R_elder' (by (with_reducible repeat (first | apply Kd.R_alloc | apply Kd.R_drewN | apply Kd.R_drew)); exact HO444.out) (Kd.R_base ho0) hb); have n2_ := Aside0.mk (Kd.R_lower (Kd.R_new' ho0 (Kd.R_lt (by (with_reducible repeat (first | apply Kd.R_alloc | apply Kd.R_drewN | apply Kd.R_drew)); exact HO444.out))) (below_size (by repeat (first | (with_reducible first | exact HB.out | apply below_alloc | apply pw_below_drewN | apply below_drew1) | exact HB.out)))); have n3_ := Aside0.mk (below_step (by repeat (first | (with_reducible first | exact HB.out | apply below_alloc | apply pw_below_drewN | apply below_drew1) | exact HB.out)) hb); clear HO440; clear HO444; clear HB; have HO440 := n0_; have HO444 := n1_; have HO447 := n2_; have HB := n3_; clear n0_ n1_ n2_ n3_; (try clear hb); (try clear hb2); (try clear hk); (try clear hi); (try clear ho0)) | ((with_reducible refine gate_callee (f := 12) rfl ?_); refine goesL_ (some 44) rfl rfl Try.func12 (by kernel_rfl) rfl #[.string ((t435 ++ (rdOf ByteArray.empty y438 (ji19))) ++ x9_15)] rfl (by (try simp only [List.map_toArray, List.map_cons, List.map_nil]); first | done | (simp only [hji19]; rfl) | rfl | (simp only [List.length_drop, List.length_take]; rfl)) ?_; (with_reducible refine (forms_Forms.calls kj15 ((t435 ++ (rdOf ByteArray.empty y438 (ji19))) ++ x9_15) t448 _ A26.out).mono ?_); rintro e w75 ⟨v449, rfl, ho0, hb⟩; refine ⟨_, rfl, ?_⟩; have n0_ := Aside0.mk (Kd.R_below (by (with_reducible repeat (first | apply Kd.R_alloc | apply Kd.R_drewN | apply Kd.R_drew)); exact HO440.out) hb); have n1_ := Aside0.mk (Kd.R_elder' (by (with_reducible repeat (first | apply Kd.R_alloc | apply Kd.R_drewN | apply Kd.R_drew)); exact HO444.out) (Kd.R_base ho0) hb); have n2_ := Aside0.mk (Kd.R_elder' (by (with_reducible repeat (first | apply Kd.R_alloc | apply Kd.R_drewN | apply Kd.R_drew)); exact HO447.out) (Kd.R_base ho0) hb); have n3_ := Aside0.mk (Kd.R_lower (Kd.R_new' (Kd.R_new' ho0 (Kd.R_lt (by (with_reducible repeat (first | apply Kd.R_alloc | apply Kd.R_drewN | apply Kd.R_drew)); exact HO444.out))) (Kd.R_lt (by (with_reducible repeat (first | apply Kd.R_alloc | apply Kd.R_drewN | apply Kd.R_drew)); exact HO447.out))) (below_size (by repeat (first | (with_reducible first | exact HB.out | apply below_alloc | apply pw_below_drewN | apply below_drew1) | exact HB.out)))); have n4_ := Aside0.mk (below_step (by repeat (first | (with_reducible first | exact HB.out | apply below_alloc | apply pw_below_drewN | apply below_drew1) | exact HB.out)) hb); clear HO440; clear HO444; clear HO447; clear HB; have HO440 := n0_; have HO444 := n1_; have HO447 := n2_; have HO450 := n3_; have HB := n4_; clear n0_ n1_ n2_ n3_ n4_; (try clear hb); (try clear hb2); (try clear hk); (try clear hi); (try clear ho0); obtain ⟨Ao76, co76, eo76⟩ := Kd.R_slice HO450.out; subst eo76; obtain ⟨Ao77, co77, eo77⟩ := Kd.R_slice HO444.out; subst eo77; obtain ⟨Ao78, co78, eo78⟩ := Kd.R_slice HO447.out; subst eo78))
                      go_ret
                      exact ⟨by first | rfl | (simp [errW_none, errW_some] <;> rfl) | (simp only [← hji19]; first | rfl | (simp [errW_none, errW_some] <;> rfl)) | (simp [*, errW_none, errW_some] <;> rfl), by repeat (first | (with_reducible first | exact HB.out | apply below_alloc | apply pw_below_drewN | apply below_drew1) | exact HB.out)⟩
                  · rw [if_neg c27] at H
                    have c27b0 : ((t448.length : Int) == (wrap64 ((wrap64 ((t442.length : Int) + 1)) + (t445.length : Int)))) = false := beq_eq_false_iff_ne.mpr c27
                    have c27b1 : ((t448.length : Int) != (wrap64 ((wrap64 ((t442.length : Int) + 1)) + (t445.length : Int)))) = true := bne_iff_ne.mpr c27
                    obtain rfl := Option.some.inj H
                    go_wp2_with (first | ((with_reducible refine gate_dst (N := 30) rfl ?_); (try (refine gate_guard (by rfl) ?_; dsimp only)); refine Kd.R_lit Kd.string _ 9 ?hg (N := 30) ?hd (xs := ([(⟨#[32]⟩ : ByteArray), (⟨#[10]⟩ : ByteArray), (⟨#[33]⟩ : ByteArray), (⟨#[45]⟩ : ByteArray)] : List ByteArray)) (inner := [.string (⟨#[32]⟩ : ByteArray), .string (⟨#[10]⟩ : ByteArray), .string (⟨#[33]⟩ : ByteArray), .string (⟨#[45]⟩ : ByteArray)]) (ok := fun _ => True) (okp := fun _ => True) ?hr ?hp (fun _ hk => hk) trivial (Below.refl _ _) (Nat.le_refl _) (by simp) ?_; (case hd => rfl); (case hg => rfl); (case hr => first | (go_simp; done) | (go_simp; rfl)); (case hp => exact (Reps.one (show Kd.M Kd.string _ _ _ (⟨#[32]⟩ : ByteArray) [.string (⟨#[32]⟩ : ByteArray)] from rfl) (Reps.one (show Kd.M Kd.string _ _ _ (⟨#[10]⟩ : ByteArray) [.string (⟨#[10]⟩ : ByteArray)] from rfl) (Reps.one (show Kd.M Kd.string _ _ _ (⟨#[33]⟩ : ByteArray) [.string (⟨#[33]⟩ : ByteArray)] from rfl) (Reps.one (show Kd.M Kd.string _ _ _ (⟨#[45]⟩ : ByteArray) [.string (⟨#[45]⟩ : ByteArray)] from rfl) (Reps.none _ _)))))); intro v439 w79 ho80 hb hg_ hnew_; clear hg_ hnew_; (first | rw [← Ny438.out] at ho80 | (simp only [Int.reduceToNat] at ho80; rw [← Ny438.out] at ho80)); have n0_ := Aside0.mk (Kd.R_lower ho80 (below_size (by repeat (first | (with_reducible first | exact HB.out | apply below_alloc | apply pw_below_drewN | apply below_drew1) | exact HB.out)))); have n1_ := Aside0.mk (below_step (by repeat (first | (with_reducible first | exact HB.out | apply below_alloc | apply pw_below_drewN | apply below_drew1) | exact HB.out)) hb); clear HB; have HO440 := n0_; have HB := n1_; clear n0_ n1_; clear hb ho80; obtain ⟨Ao81, co81, eo81⟩ := Kd.R_slice HO440.out; subst eo81; have p441 : 0 ≤ ((ji19) : Int) := of_decide_eq_true (by first | (with_reducible assumption) | assumption); have q441 : (ji19) < (y438.length : Int) := of_decide_eq_true (by first | (with_reducible assumption) | assumption); obtain ⟨ad441, e441, hx441_0⟩ := Kd.at_string (Kd.R_reads' HO440.out).2.2 (ji19) p441 q441; cases e441; replace p441 := eq_true p441; replace q441 := eq_true q441) | ((with_reducible refine gate_callee (f := 12) rfl ?_); refine goesL_ (some 36) rfl rfl Try.func12 (by kernel_rfl) rfl #[.string t435] rfl (by (try simp only [List.map_toArray, List.map_cons, List.map_nil]); first | done | rfl | (simp only [List.length_drop, List.length_take]; rfl)) ?_; (with_reducible refine (forms_Forms.calls kj15 t435 t442 _ A22.out).mono ?_); rintro e w82 ⟨v443, rfl, ho0, hb⟩; refine ⟨_, rfl, ?_⟩; have n0_ := Aside0.mk (Kd.R_below (by (with_reducible repeat (first | apply Kd.R_alloc | apply Kd.R_drewN | apply Kd.R_drew)); exact HO440.out) hb); have n1_ := Aside0.mk (Kd.R_lower ho0 (below_size (by repeat (first | (with_reducible first | exact HB.out | apply below_alloc | apply pw_below_drewN | apply below_drew1) | exact HB.out)))); have n2_ := Aside0.mk (below_step (by repeat (first | (with_reducible first | exact HB.out | apply below_alloc | apply pw_below_drewN | apply below_drew1) | exact HB.out)) hb); clear HO440; clear HB; have HO440 := n0_; have HO444 := n1_; have HB := n2_; clear n0_ n1_ n2_; (try clear hb); (try clear hb2); (try clear hk); (try clear hi); (try clear ho0)) | ((with_reducible refine gate_callee (f := 12) rfl ?_); refine goesL_ (some 38) rfl rfl Try.func12 (by kernel_rfl) rfl #[.string x9_15] rfl (by (try simp only [List.map_toArray, List.map_cons, List.map_nil]); first | done | rfl | (simp only [List.length_drop, List.length_take]; rfl)) ?_; (with_reducible refine (forms_Forms.calls kj15 x9_15 t445 _ A23.out).mono ?_); rintro e w83 ⟨v446, rfl, ho0, hb⟩; refine ⟨_, rfl, ?_⟩; have n0_ := Aside0.mk (Kd.R_below (by (with_reducible repeat (first | apply Kd.R_alloc | apply Kd.R_drewN | apply Kd.R_drew)); exact HO440.out) hb); have n1_ := Aside0.mk (Kd.R_elder' (by (with_reducible repeat (first | apply Kd.R_alloc | apply Kd.R_drewN | apply Kd.R_drew)); exact HO444.out) (Kd.R_base ho0) hb); have n2_ := Aside0.mk (Kd.R_lower (Kd.R_new' ho0 (Kd.R_lt (by (with_reducible repeat (first | apply Kd.R_alloc | apply Kd.R_drewN | apply Kd.R_drew)); exact HO444.out))) (below_size (by repeat (first | (with_reducible first | exact HB.out | apply below_alloc | apply pw_below_drewN | apply below_drew1) | exact HB.out)))); have n3_ := Aside0.mk (below_step (by repeat (first | (with_reducible first | exact HB.out | apply below_alloc | apply pw_below_drewN | apply below_drew1) | exact HB.out)) hb); clear HO440; clear HO444; clear HB; have HO440 := n0_; have HO444 := n1_; have HO447 := n2_; have HB := n3_; clear n0_ n1_ n2_ n3_; (try clear hb); (try clear hb2); (try clear hk); (try clear hi); (try clear ho0)) | ((with_reducible refine gate_callee (f := 12) rfl ?_); refine goesL_ (some 44) rfl rfl Try.func12 (by kernel_rfl) rfl #[.string ((t435 ++ (rdOf ByteArray.empty y438 (ji19))) ++ x9_15)] rfl (by (try simp only [List.map_toArray, List.map_cons, List.map_nil]); first | done | (simp only [hji19]; rfl) | rfl | (simp only [List.length_drop, List.length_take]; rfl)) ?_; (with_reducible refine (forms_Forms.calls kj15 ((t435 ++ (rdOf ByteArray.empty y438 (ji19))) ++ x9_15) t448 _ A26.out).mono ?_); rintro e w84 ⟨v449, rfl, ho0, hb⟩; refine ⟨_, rfl, ?_⟩; have n0_ := Aside0.mk (Kd.R_below (by (with_reducible repeat (first | apply Kd.R_alloc | apply Kd.R_drewN | apply Kd.R_drew)); exact HO440.out) hb); have n1_ := Aside0.mk (Kd.R_elder' (by (with_reducible repeat (first | apply Kd.R_alloc | apply Kd.R_drewN | apply Kd.R_drew)); exact HO444.out) (Kd.R_base ho0) hb); have n2_ := Aside0.mk (Kd.R_elder' (by (with_reducible repeat (first | apply Kd.R_alloc | apply Kd.R_drewN | apply Kd.R_drew)); exact HO447.out) (Kd.R_base ho0) hb); have n3_ := Aside0.mk (Kd.R_lower (Kd.R_new' (Kd.R_new' ho0 (Kd.R_lt (by (with_reducible repeat (first | apply Kd.R_alloc | apply Kd.R_drewN | apply Kd.R_drew)); exact HO444.out))) (Kd.R_lt (by (with_reducible repeat (first | apply Kd.R_alloc | apply Kd.R_drewN | apply Kd.R_drew)); exact HO447.out))) (below_size (by repeat (first | (with_reducible first | exact HB.out | apply below_alloc | apply pw_below_drewN | apply below_drew1) | exact HB.out)))); have n4_ := Aside0.mk (below_step (by repeat (first | (with_reducible first | exact HB.out | apply below_alloc | apply pw_below_drewN | apply below_drew1) | exact HB.out)) hb); clear HO440; clear HO444; clear HO447; clear HB; have HO440 := n0_; have HO444 := n1_; have HO447 := n2_; have HO450 := n3_; have HB := n4_; clear n0_ n1_ n2_ n3_ n4_; (try clear hb); (try clear hb2); (try clear hk); (try clear hi); (try clear ho0); obtain ⟨Ao85, co85, eo85⟩ := Kd.R_slice HO450.out; subst eo85; obtain ⟨Ao86, co86, eo86⟩ := Kd.R_slice HO444.out; subst eo86; obtain ⟨Ao87, co87, eo87⟩ := Kd.R_slice HO447.out; subst eo87))
                    go_ret
                    exact ⟨by first | rfl | (simp [errW_none, errW_some] <;> rfl) | (simp only [← hji19]; first | rfl | (simp [errW_none, errW_some] <;> rfl)) | (simp [*, errW_none, errW_some] <;> rfl), by repeat (first | (with_reducible first | exact HB.out | apply below_alloc | apply pw_below_drewN | apply below_drew1) | exact HB.out)⟩
                · rw [if_neg c25] at H
                  exact absurd H (by simp)
              · rw [if_neg c24] at H
                exact absurd H (by simp)
            · rw [if_neg c21] at H
              exact absurd H (by simp)
          · rw [if_neg c20] at H
            exact absurd H (by simp)

/-- THE ONE PURE STATEMENT of abugidalaw17_FormsApart: yours. -/
def abugidalaw17_FormsApart.Pure : Prop := ∀ (l0 : List Int) (l1 : List Int) (a2 : Int), l0.length ≤ maxLen → l0.length * 8 ≤ 140737488351232 → (∀ x ∈ l0, (Lit.int .i64 x).wf = true) → l1.length ≤ maxLen → l1.length * 8 ≤ 140737488351232 → (∀ x ∈ l1, (Lit.int .i64 x).wf = true) → (Lit.int .u8 a2).wf = true → ∃ k, abugidalaw17_FormsApart.f k l0 l1 a2 = some true
theorem abugidalaw17_FormsApart.walk (P : abugidalaw17_FormsApart.Pure) (a0 : Option Addr) (len0 cap0 : Nat) (z0 : List Int) (a1 : Option Addr) (len1 cap1 : Nat) (z1 : List Int) (a2 : Int) (w : World) (w0 : (a0 = none ∧ len0 = 0 ∧ cap0 = 0 ∧ z0 = []) ∨ ∃ x, a0 = some x ∧ len0 ≤ cap0 ∧ cap0 ≤ maxLen ∧ z0.length = cap0 ∧ (∀ i, i < z0.length → w.cell? (x.add i) = some (.int .i64 (z0.getD i 0))) ∧ ∀ n ∈ z0, (Lit.int .i64 n).wf = true) (y0 : len0 * 8 ≤ 140737488351232) (w1 : (a1 = none ∧ len1 = 0 ∧ cap1 = 0 ∧ z1 = []) ∨ ∃ x, a1 = some x ∧ len1 ≤ cap1 ∧ cap1 ≤ maxLen ∧ z1.length = cap1 ∧ (∀ i, i < z1.length → w.cell? (x.add i) = some (.int .i64 (z1.getD i 0))) ∧ ∀ n ∈ z1, (Lit.int .i64 n).wf = true) (y1 : len1 * 8 ≤ 140737488351232) (w2 : (Lit.int .u8 a2).wf = true) :
    Calls Try.prog 7 #[.slice a0 len0 cap0, .slice a1 len1 cap1, .int .u8 a2] w fun e w' => e = .returned (.bool true) ∧ Below w.heap.size w w' := by
  obtain ⟨l0, rfl, hr0, hm0, hw0, hc0⟩ := ReadsInt.ofRowC w0
  obtain ⟨l1, rfl, hr1, hm1, hw1, hc1⟩ := ReadsInt.ofRowC w1
  obtain ⟨k, h⟩ := P l0 l1 a2 hm0 y0 hw0 hm1 y1 hw1 w2
  refine (abugidalaw17_FormsApart.calls k _ _ l0 _ _ l1 a2 true w (Kd.C_of_reads (d := (0 : Int)) (h1 := fun _ => rfl) hr0) hc0 (Kd.C_of_reads (d := (0 : Int)) (h1 := fun _ => rfl) hr1) hc1 h).mono ?_
  rintro e w' ⟨rfl, hd⟩
  exact ⟨rfl, hd⟩

end Go.Proofs.Ytgpdieogkcnfeaa.Q

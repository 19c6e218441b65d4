-- Written by wip/tools/myprint.py, a program of this session that drives the kit's print.py; not a text of print.sh.
import Derived.Test.YtacnckneiklgpaaQx0
namespace Go.Proofs.Ytacnckneiklgpaa.Q
open Go.RowKit Go.Proofs.YtacnckneiklgpaaW.PrintWords Go.Proofs.YtacnckneiklgpaaW.PrintLast Go.Proofs.YtacnckneiklgpaaW.PrintMore
attribute [local go_sem] max2_int min2_int max_two min_two max_three min_three max_four min_four   -- for this text's walks alone
set_option linter.unusedVariables false
set_option linter.unusedSimpArgs false

/-! ### abugidaref01_Mod: function 23 -/
def abugidaref01_Mod.f (a0 : Int) (a1 : Int) : Option (Int) := if a1 = 0 then (none) else (some (Int.tmod (wrap64 ((Int.tmod a0 a1) + a1)) a1))
set_option maxHeartbeats 8000000 in
set_option maxRecDepth 100000 in
theorem abugidaref01_Mod.calls (a0 : Int) (a1 : Int) (r : Int) (w : World) (h : abugidaref01_Mod.f a0 a1 = some r) :
    Calls Try.prog 23 #[.int .i64 a0, .int .i64 a1] w fun e w' => e = .returned (.int .i64 r) ∧ Drawn0 w w' := by
  have H : (if a1 = 0 then (none) else (some (Int.tmod (wrap64 ((Int.tmod a0 a1) + a1)) a1))) = some r := h
  clear h
  by_cases c3 : a1 = 0
  · rw [if_pos c3] at H
    exact absurd H (by simp)
  · rw [if_neg c3] at H
    have c3b0 : (a1 == 0) = false := beq_eq_false_iff_ne.mpr c3
    have c3b1 : (a1 != 0) = true := bne_iff_ne.mpr c3
    obtain rfl := Option.some.inj H
    go_enter Try.func23, Try.ntmps23
    go_wp2
    go_ret
    exact ⟨by first | rfl | (simp; done) | (simp [*]; done), by repeat (first | exact Drawn0.refl _ | apply Drawn0.step)⟩

/-! ### abugidaref07_Visual: function 25 -/
mutual
def abugidaref07_Visual.l0 : Nat → List Int → List Int → Int → Option (List Int)
  | 0, _, _, _ => none
  | k + 1, x0, x3, x4 => if x4 < (x0.length : Int) then (if x3.length < 17592186044416 then (abugidaref07_Visual.l0 k x0 (x3 ++ [x4]) (wrap64 (x4 + 1))) else (none)) else (abugidaref07_Visual.l1 k x0 x3 9)
def abugidaref07_Visual.l1 : Nat → List Int → List Int → Int → Option (List Int)
  | 0, _, _, _ => none
  | k + 1, x0, x3, x5 => if x5 ≥ 1 then (abugidaref07_Visual.l2 k x0 x3 x5 0) else (some x3)
def abugidaref07_Visual.l2 : Nat → List Int → List Int → Int → Int → Option (List Int)
  | 0, _, _, _, _ => none
  | k + 1, x0, x3, x5, x6 => if x6 < (x3.length : Int) then (abugidaref07_Visual.l3 k x0 x3 x5 x6 x6) else (abugidaref07_Visual.l1 k x0 x3 (wrap64 (x5 - 1)))
def abugidaref07_Visual.j4 : Nat → List Int → List Int → Int → Int → Int → Option (List Int)
  | 0, _, _, _, _, _ => none
  | k + 1, x0, x3, x5, x6, x7 => abugidaref07_Visual.l4 k x0 x3 x5 x6 x7 x6 (wrap64 (x7 - 1))
def abugidaref07_Visual.l4 : Nat → List Int → List Int → Int → Int → Int → Int → Int → Option (List Int)
  | 0, _, _, _, _, _, _, _ => none
  | k + 1, x0, x3, x5, x6, x7, x8, x9 => if x8 < x9 then (if 0 ≤ x9 then (if x9 < (x3.length : Int) then (if 0 ≤ x8 then (if x8 < (x3.length : Int) then (abugidaref07_Visual.l4 k x0 ((x3.set (x8 : Int).toNat (rd x3 x9)).set (x9 : Int).toNat (rd x3 x8)) x5 x6 x7 (wrap64 (x8 + 1)) (wrap64 (x9 - 1))) else (none)) else (none)) else (none)) else (none)) else (if x7 > x6 then (abugidaref07_Visual.l2 k x0 x3 x5 (wrap64 ((wrap64 (x7 - 1)) + 1))) else (abugidaref07_Visual.l2 k x0 x3 x5 (wrap64 (x6 + 1))))
def abugidaref07_Visual.l3 : Nat → List Int → List Int → Int → Int → Int → Option (List Int)
  | 0, _, _, _, _, _ => none
  | k + 1, x0, x3, x5, x6, x7 => if x7 < (x3.length : Int) then (if 0 ≤ x7 then (if 0 ≤ (rd x3 x7) then (if (rd x3 x7) < (x0.length : Int) then (if (rd x0 (rd x3 x7)) ≥ x5 then (abugidaref07_Visual.l3 k x0 x3 x5 x6 (wrap64 (x7 + 1))) else (abugidaref07_Visual.j4 k x0 x3 x5 x6 x7)) else (none)) else (none)) else (none)) else (abugidaref07_Visual.j4 k x0 x3 x5 x6 x7)
end
def abugidaref07_Visual.f (k : Nat) (l0 : List Int) : Option (List Int) := abugidaref07_Visual.l0 k l0 ([] : List Int) 0
theorem abugidaref07_Visual.mono_l : ∀ k, (∀ y0 y1 y2, LeO (abugidaref07_Visual.l0 k y0 y1 y2) (abugidaref07_Visual.l0 (k + 1) y0 y1 y2)) ∧ (∀ y0 y1 y2, LeO (abugidaref07_Visual.l1 k y0 y1 y2) (abugidaref07_Visual.l1 (k + 1) y0 y1 y2)) ∧ (∀ y0 y1 y2 y3, LeO (abugidaref07_Visual.l2 k y0 y1 y2 y3) (abugidaref07_Visual.l2 (k + 1) y0 y1 y2 y3)) ∧ (∀ y0 y1 y2 y3 y4, LeO (abugidaref07_Visual.j4 k y0 y1 y2 y3 y4) (abugidaref07_Visual.j4 (k + 1) y0 y1 y2 y3 y4)) ∧ (∀ y0 y1 y2 y3 y4 y5 y6, LeO (abugidaref07_Visual.l4 k y0 y1 y2 y3 y4 y5 y6) (abugidaref07_Visual.l4 (k + 1) y0 y1 y2 y3 y4 y5 y6)) ∧ (∀ y0 y1 y2 y3 y4, LeO (abugidaref07_Visual.l3 k y0 y1 y2 y3 y4) (abugidaref07_Visual.l3 (k + 1) y0 y1 y2 y3 y4))
  | 0 => ⟨fun _ _ _ r h => by simp [abugidaref07_Visual.l0] at h, fun _ _ _ r h => by simp [abugidaref07_Visual.l1] at h, fun _ _ _ _ r h => by simp [abugidaref07_Visual.l2] at h, fun _ _ _ _ _ r h => by simp [abugidaref07_Visual.j4] at h, fun _ _ _ _ _ _ _ r h => by simp [abugidaref07_Visual.l4] at h, fun _ _ _ _ _ r h => by simp [abugidaref07_Visual.l3] at h⟩
  | k + 1 => by
    obtain ⟨ih0, ih1, ih2, ih3, ih4, ih5⟩ := abugidaref07_Visual.mono_l k
    refine ⟨?_, ?_, ?_, ?_, ?_, ?_⟩
    · intro y0 y1 y2
      unfold abugidaref07_Visual.l0
      repeat' first
      | (with_reducible exact ih0 _ _ _)
      | (with_reducible exact ih1 _ _ _)
      | (with_reducible exact ih2 _ _ _ _)
      | (with_reducible exact ih3 _ _ _ _ _)
      | (with_reducible exact ih4 _ _ _ _ _ _ _)
      | (with_reducible exact ih5 _ _ _ _ _)
      | (with_reducible exact LeO.refl _)
      | (with_reducible exact LeO.none _)
      | (with_reducible refine LeO.ite ?_ ?_)
      | (with_reducible refine LeO.bind ?_ (fun _ => ?_))
      | exact ih0 _ _ _
      | exact ih1 _ _ _
      | exact ih2 _ _ _ _
      | exact ih3 _ _ _ _ _
      | exact ih4 _ _ _ _ _ _ _
      | exact ih5 _ _ _ _ _
      | exact LeO.none _
      | refine LeO.ite ?_ ?_
      | refine LeO.bind ?_ (fun _ => ?_)
    · intro y0 y1 y2
      unfold abugidaref07_Visual.l1
      repeat' first
      | (with_reducible exact ih0 _ _ _)
      | (with_reducible exact ih1 _ _ _)
      | (with_reducible exact ih2 _ _ _ _)
      | (with_reducible exact ih3 _ _ _ _ _)
      | (with_reducible exact ih4 _ _ _ _ _ _ _)
      | (with_reducible exact ih5 _ _ _ _ _)
      | (with_reducible exact LeO.refl _)
      | (with_reducible exact LeO.none _)
      | (with_reducible refine LeO.ite ?_ ?_)
      | (with_reducible refine LeO.bind ?_ (fun _ => ?_))
      | exact ih0 _ _ _
      | exact ih1 _ _ _
      | exact ih2 _ _ _ _
      | exact ih3 _ _ _ _ _
      | exact ih4 _ _ _ _ _ _ _
      | exact ih5 _ _ _ _ _
      | exact LeO.none _
      | refine LeO.ite ?_ ?_
      | refine LeO.bind ?_ (fun _ => ?_)
    · intro y0 y1 y2 y3
      unfold abugidaref07_Visual.l2
      repeat' first
      | (with_reducible exact ih0 _ _ _)
      | (with_reducible exact ih1 _ _ _)
      | (with_reducible exact ih2 _ _ _ _)
      | (with_reducible exact ih3 _ _ _ _ _)
      | (with_reducible exact ih4 _ _ _ _ _ _ _)
      | (with_reducible exact ih5 _ _ _ _ _)
      | (with_reducible exact LeO.refl _)
      | (with_reducible exact LeO.none _)
      | (with_reducible refine LeO.ite ?_ ?_)
      | (with_reducible refine LeO.bind ?_ (fun _ => ?_))
      | exact ih0 _ _ _
      | exact ih1 _ _ _
      | exact ih2 _ _ _ _
      | exact ih3 _ _ _ _ _
      | exact ih4 _ _ _ _ _ _ _
      | exact ih5 _ _ _ _ _
      | exact LeO.none _
      | refine LeO.ite ?_ ?_
      | refine LeO.bind ?_ (fun _ => ?_)
    · intro y0 y1 y2 y3 y4
      unfold abugidaref07_Visual.j4
      repeat' first
      | (with_reducible exact ih0 _ _ _)
      | (with_reducible exact ih1 _ _ _)
      | (with_reducible exact ih2 _ _ _ _)
      | (with_reducible exact ih3 _ _ _ _ _)
      | (with_reducible exact ih4 _ _ _ _ _ _ _)
      | (with_reducible exact ih5 _ _ _ _ _)
      | (with_reducible exact LeO.refl _)
      | (with_reducible exact LeO.none _)
      | (with_reducible refine LeO.ite ?_ ?_)
      | (with_reducible refine LeO.bind ?_ (fun _ => ?_))
      | exact ih0 _ _ _
      | exact ih1 _ _ _
      | exact ih2 _ _ _ _
      | exact ih3 _ _ _ _ _
      | exact ih4 _ _ _ _ _ _ _
      | exact ih5 _ _ _ _ _
      | exact LeO.none _
      | refine LeO.ite ?_ ?_
      | refine LeO.bind ?_ (fun _ => ?_)
    · intro y0 y1 y2 y3 y4 y5 y6
      unfold abugidaref07_Visual.l4
      repeat' first
      | (with_reducible exact ih0 _ _ _)
      | (with_reducible exact ih1 _ _ _)
      | (with_reducible exact ih2 _ _ _ _)
      | (with_reducible exact ih3 _ _ _ _ _)
      | (with_reducible exact ih4 _ _ _ _ _ _ _)
      | (with_reducible exact ih5 _ _ _ _ _)
      | (with_reducible exact LeO.refl _)
      | (with_reducible exact LeO.none _)
      | (with_reducible refine LeO.ite ?_ ?_)
      | (with_reducible refine LeO.bind ?_ (fun _ => ?_))
      | exact ih0 _ _ _
      | exact ih1 _ _ _
      | exact ih2 _ _ _ _
      | exact ih3 _ _ _ _ _
      | exact ih4 _ _ _ _ _ _ _
      | exact ih5 _ _ _ _ _
      | exact LeO.none _
      | refine LeO.ite ?_ ?_
      | refine LeO.bind ?_ (fun _ => ?_)
    · intro y0 y1 y2 y3 y4
      unfold abugidaref07_Visual.l3
      repeat' first
      | (with_reducible exact ih0 _ _ _)
      | (with_reducible exact ih1 _ _ _)
      | (with_reducible exact ih2 _ _ _ _)
      | (with_reducible exact ih3 _ _ _ _ _)
      | (with_reducible exact ih4 _ _ _ _ _ _ _)
      | (with_reducible exact ih5 _ _ _ _ _)
      | (with_reducible exact LeO.refl _)
      | (with_reducible exact LeO.none _)
      | (with_reducible refine LeO.ite ?_ ?_)
      | (with_reducible refine LeO.bind ?_ (fun _ => ?_))
      | exact ih0 _ _ _
      | exact ih1 _ _ _
      | exact ih2 _ _ _ _
      | exact ih3 _ _ _ _ _
      | exact ih4 _ _ _ _ _ _ _
      | exact ih5 _ _ _ _ _
      | exact LeO.none _
      | refine LeO.ite ?_ ?_
      | refine LeO.bind ?_ (fun _ => ?_)
theorem abugidaref07_Visual.mono : ∀ a0 k, LeO (abugidaref07_Visual.f k a0) (abugidaref07_Visual.f (k + 1) a0) := by
  intro a0 k
  obtain ⟨ih0, ih1, ih2, ih3, ih4, ih5⟩ := abugidaref07_Visual.mono_l k
  unfold abugidaref07_Visual.f
  repeat' first
      | (with_reducible exact ih0 _ _ _)
      | (with_reducible exact ih1 _ _ _)
      | (with_reducible exact ih2 _ _ _ _)
      | (with_reducible exact ih3 _ _ _ _ _)
      | (with_reducible exact ih4 _ _ _ _ _ _ _)
      | (with_reducible exact ih5 _ _ _ _ _)
      | (with_reducible exact LeO.refl _)
      | (with_reducible exact LeO.none _)
      | (with_reducible refine LeO.ite ?_ ?_)
      | (with_reducible refine LeO.bind ?_ (fun _ => ?_))
      | exact ih0 _ _ _
      | exact ih1 _ _ _
      | exact ih2 _ _ _ _
      | exact ih3 _ _ _ _ _
      | exact ih4 _ _ _ _ _ _ _
      | exact ih5 _ _ _ _ _
      | exact LeO.none _
      | refine LeO.ite ?_ ?_
      | refine LeO.bind ?_ (fun _ => ?_)
def abugidaref07_Visual.T18 : Bool × List (List Nat × List Nat) := (true, [([], []), ([], []), ([], []), ([], []), ([], []), ([], []), ([4, 5], [4, 5]), ([6], [6]), ([], []), ([], []), ([8, 9], [8, 9]), ([10], [10]), ([0, 1, 0, 1, 4, 5, 6, 7, 11], [0, 1]), ([12, 7, 0, 1, 4, 5, 6, 7, 11], [7, 12]), ([2, 3, 0, 1, 2, 3, 4, 5, 6, 7, 8, 9, 10, 11, 12, 13], [2, 3]), ([14, 11, 13, 0, 1, 2, 3, 4, 5, 6, 7, 8, 9, 10, 11, 12, 13], [11, 14])])
def abugidaref07_Visual.B18 : List Nat := [0, 0, 0, 0, 0, 0, 48, 112, 0, 0, 768, 1792, 4083, 8179, 16383, 32767]
theorem abugidaref07_Visual.tab18 : rtab .any (opsOf Try.f25 18) = abugidaref07_Visual.T18 := by kernel_rfl
theorem abugidaref07_Visual.bits18 : waitsOk abugidaref07_Visual.T18.2 abugidaref07_Visual.B18 = true := by kernel_rfl
set_option maxHeartbeats 8000000 in
set_option maxRecDepth 100000 in
theorem abugidaref07_Visual.calls (k : Nat) (A0 : Option Addr) (c0 : Nat) (l0 : List Int) (r : List Int) (w : World) (hr0 : Kd.C (Kd.int .i64) w A0 l0.length l0) (hc0 : l0.length ≤ c0) (h : abugidaref07_Visual.f k l0 = some r) :
    Calls Try.prog 25 #[.slice A0 l0.length c0] w fun e w' => ∃ v0_ : Value, e = .returned (v0_) ∧ Kd.R (Kd.int .i64) 3 w' w.heap.size (fun _ => True) v0_ r ∧ Below w.heap.size w w' := by
  have HR0 := Aside0.mk hr0
  have HC0 := Aside0.mk hc0
  clear hr0 hc0
  have HB := Aside0.mk (Below.refl w.heap.size w)
  have H : (abugidaref07_Visual.l0 k l0 ([] : List Int) 0) = some r := h
  clear h
  have H' := Aside0.mk H
  clear H
  go_enter Try.func25, Try.ntmps25
  go_wp2
  go_loopg [3, 4] k (fun kq v3 v4 w' => ∃ (x3_1 : List Int) (x4_1 : Int), v4 = .int .i64 x4_1 ∧ Aside0 (abugidaref07_Visual.l0 kq l0 x3_1 x4_1 = some r) ∧ Aside0 (kq ≤ k) ∧ Aside0 (Kd.R (Kd.int .i64) 3 w' w.heap.size (fun _ => True) v3 x3_1) ∧ Aside0 (Below w.heap.size w w'))
  case atStart => exact ⟨(([] : List Int)), (0), (by first | rfl | (simp; done) | (simp [*]; done)), H', ⟨Nat.le_refl _⟩, ⟨by first | exact Kd.R_nil _ _ _ _ _ | exact Kd.N_nil _ _ _ _ _ | exact Kd.V_nil _ _ _ _ _ | exact Kd.Q_nil _ _ _ _ _ | exact Kd.S_nil _ _ _ _ _⟩, ⟨by repeat (first | (with_reducible first | exact HB.out | apply below_alloc | apply pw_below_drewN | apply below_drew1) | exact HB.out)⟩⟩
  case round =>
    clear H'
    obtain ⟨x3_1, x4_1, rfl, HA, HK1, HO_3, HB⟩ := hrel
    cases gk with
    | zero => exact absurd HA.out (by simp [abugidaref07_Visual.l0])
    | succ k1 =>
      have H := HA.out
      clear HA
      simp only [abugidaref07_Visual.l0] at H
      by_cases c2 : x4_1 < (l0.length : Int)
      · rw [if_pos c2] at H
        have c2b0 : decide (x4_1 < (l0.length : Int)) = true := decide_eq_true c2
        clear c2
        by_cases c3 : x3_1.length < 17592186044416
        · rw [if_pos c3] at H
          have LMc3 := Aside0.mk c3
          clear c3
          obtain ⟨y407, hy407⟩ : ∃ y_ : List Int, y_ = (x3_1 ++ [x4_1]) := ⟨_, rfl⟩
          replace H : (abugidaref07_Visual.l0 k1 l0 y407 (wrap64 (x4_1 + 1))) = some r := by first | (rw [hy407]; with_reducible exact H) | (have H2_ := (Option.bind_some _ _).symm.trans H; rw [hy407]; with_reducible exact H2_) | (have H2_ := (Option.bind_some _ _).symm.trans H; with_reducible exact H2_) | with_reducible exact H | (rw [hy407]; exact H) | exact H
          have Ny407 := Aside0.mk hy407
          clear hy407
          have H' := Aside0.mk H
          clear H
          go_wp2_with (first | ((with_reducible refine gate_builtin (b := .append) (xs := #[.tmp 16, .tmp 18]) rfl ?_); at_builtin; refine Kd.R_append (Kd.int .i64) (w0 := w) w.heap.size rfl (.tmp 16) (.tmp 18) 26 3 (.int .i64 0) 8 rfl Try.underlying26 info3 rfl (by decide) (by omega) u3 x3_1 x4_1 [.int .i64 x4_1] (fun _ => True) (fun _ => False) rfl rfl ?aP (fun _ hk => hk.elim) ?aF ?aO ?aB ?aS ?aL ?_; (case aP => exact rfl); (case aB => exact (by repeat (first | (with_reducible first | exact HB.out | apply below_alloc | apply pw_below_drewN | apply below_drew1) | exact HB.out))); (case aF => exact (fun _ _ => trivial)); (case aO => exact (by (with_reducible repeat (first | apply Kd.R_alloc | apply Kd.R_drewN | apply Kd.R_drew)); exact HO_3.out)); (case aS => exact (below_size (by repeat (first | (with_reducible first | exact HB.out | apply below_alloc | apply pw_below_drewN | apply below_drew1) | exact HB.out)))); (case aL => have := LMc3.out; omega); intro v408 w4 ho hb hg hat; rw [← Ny407.out] at ho; have n0_ := Aside0.mk (hb); have n1_ := Aside0.mk (ho); clear HB; clear HO_3; have HB := n0_; have HO409 := n1_; clear n0_ n1_; clear ho hb hg hat))
          go_roundg k1
          case measure => have := HK1.out; omega
          case rel => exact ⟨(y407), (wrap64 (x4_1 + 1)), (by first | rfl | (simp; done) | (simp [*]; done)), H', ⟨by have := HK1.out; omega⟩, ⟨by (with_reducible repeat (first | apply Kd.R_alloc | apply Kd.R_drewN | apply Kd.R_drew)); exact HO409.out⟩, ⟨by repeat (first | (with_reducible first | exact HB.out | apply below_alloc | apply pw_below_drewN | apply below_drew1) | exact HB.out)⟩⟩
        · rw [if_neg c3] at H
          exact absurd H (by simp)
      · rw [if_neg c2] at H
        have c2b0 : decide (x4_1 < (l0.length : Int)) = false := decide_eq_false c2
        clear c2
        have H' := Aside0.mk H
        clear H
        go_wp2
        go_loopg [5] k1 (fun kq v5 w' => ∃ (x3_2 : List Int) (x5_2 : Int), v5 = .int .i64 x5_2 ∧ Aside0 (abugidaref07_Visual.l1 kq l0 x3_2 x5_2 = some r) ∧ Aside0 (kq ≤ k1) ∧ Aside0 (Kd.R (Kd.int .i64) 3 w' w.heap.size (fun _ => True) u3 x3_2) ∧ Aside0 (Below w.heap.size w w'))
        case atStart => exact ⟨(x3_1), (9), (by first | rfl | (simp; done) | (simp [*]; done)), H', ⟨Nat.le_refl _⟩, ⟨by (with_reducible repeat (first | apply Kd.R_alloc | apply Kd.R_drewN | apply Kd.R_drew)); exact HO_3.out⟩, ⟨by repeat (first | (with_reducible first | exact HB.out | apply below_alloc | apply pw_below_drewN | apply below_drew1) | exact HB.out)⟩⟩
        case round =>
          clear H'
          try clear c2
          try clear c2b0
          try clear p2
          try clear c3
          obtain ⟨x3_2, x5_2, rfl, HA, HK2, HO_3, HB⟩ := hrel
          cases gk with
          | zero => exact absurd HA.out (by simp [abugidaref07_Visual.l1])
          | succ k2 =>
            have H := HA.out
            clear HA
            simp only [abugidaref07_Visual.l1] at H
            by_cases c5 : x5_2 ≥ 1
            · rw [if_pos c5] at H
              have c5b0 : decide (1 ≤ x5_2) = true := decide_eq_true c5
              clear c5
              have H' := Aside0.mk H
              clear H
              go_wp2
              go_loopg [6] k2 (fun kq v6 w' => ∃ (x3_3 : List Int) (x6_3 : Int), v6 = .int .i64 x6_3 ∧ Aside0 (abugidaref07_Visual.l2 kq l0 x3_3 x5_2 x6_3 = some r) ∧ Aside0 (kq ≤ k2) ∧ Aside0 (Kd.R (Kd.int .i64) 3 w' w.heap.size (fun _ => True) u3 x3_3) ∧ Aside0 (Below w.heap.size w w'))
              case atStart => exact ⟨(x3_2), (0), (by first | rfl | (simp; done) | (simp [*]; done)), H', ⟨Nat.le_refl _⟩, ⟨by (with_reducible repeat (first | apply Kd.R_alloc | apply Kd.R_drewN | apply Kd.R_drew)); exact HO_3.out⟩, ⟨by repeat (first | (with_reducible first | exact HB.out | apply below_alloc | apply pw_below_drewN | apply below_drew1) | exact HB.out)⟩⟩
              case round =>
                clear H'
                try clear c2
                try clear c2b0
                try clear p2
                try clear c3
                try clear c5
                try clear c5b0
                try clear p2
                obtain ⟨x3_3, x6_3, rfl, HA, HK3, HO_3, HB⟩ := hrel
                cases gk with
                | zero => exact absurd HA.out (by simp [abugidaref07_Visual.l2])
                | succ k3 =>
                  have H := HA.out
                  clear HA
                  simp only [abugidaref07_Visual.l2] at H
                  by_cases c6 : x6_3 < (x3_3.length : Int)
                  · rw [if_pos c6] at H
                    have c6b0 : decide (x6_3 < (x3_3.length : Int)) = true := decide_eq_true c6
                    clear c6
                    have HC7 := Aside0.mk H
                    clear H
                    obtain ⟨Ao8, co8, eo8⟩ := Kd.R_slice HO_3.out
                    subst eo8
                    go_upto_block 6 with (fail)
                    go_cut [7] (fun v7 wc => ∃ (kq : Nat) (x7_6 : Int), v7 = .int .i64 x7_6 ∧ Aside0 (abugidaref07_Visual.j4 kq l0 x3_3 x5_2 x6_3 x7_6 = some r) ∧ Aside0 (kq ≤ k3) ∧ Aside0 (Kd.R (Kd.int .i64) 3 wc w.heap.size (fun _ => True) (.slice Ao8 x3_3.length co8) x3_3) ∧ Aside0 (Below w.heap.size w wc))
                    case first =>
                      have H := HC7.out
                      clear HC7
                      have H' := Aside0.mk H
                      clear H
                      go_wp2
                      go_loopg [7] k3 (fun kq v7 w' => ∃ (x7_4 : Int), v7 = .int .i64 x7_4 ∧ Aside0 (abugidaref07_Visual.l3 kq l0 x3_3 x5_2 x6_3 x7_4 = some r) ∧ Aside0 (kq ≤ k3) ∧ Aside0 (Kd.R (Kd.int .i64) 3 w' w.heap.size (fun _ => True) (.slice Ao8 x3_3.length co8) x3_3) ∧ Aside0 (Below w.heap.size w w'))
                      case atStart => exact ⟨(x6_3), (by first | rfl | (simp; done) | (simp [*]; done)), H', ⟨Nat.le_refl _⟩, ⟨by (with_reducible repeat (first | apply Kd.R_alloc | apply Kd.R_drewN | apply Kd.R_drew)); exact HO_3.out⟩, ⟨by repeat (first | (with_reducible first | exact HB.out | apply below_alloc | apply pw_below_drewN | apply below_drew1) | exact HB.out)⟩⟩
                      case round =>
                        clear H'
                        try clear c2
                        try clear c2b0
                        try clear p2
                        try clear c3
                        try clear c5
                        try clear c5b0
                        try clear c6
                        try clear c6b0
                        try clear p6
                        try clear p2
                        obtain ⟨x7_4, rfl, HA, HK4, HO_3, HB⟩ := hrel
                        cases gk with
                        | zero => exact absurd HA.out (by simp [abugidaref07_Visual.l3])
                        | succ k4 =>
                          have H := HA.out
                          clear HA
                          simp only [abugidaref07_Visual.l3] at H
                          by_cases c9 : x7_4 < (x3_3.length : Int)
                          · rw [if_pos c9] at H
                            have c9b0 : decide (x7_4 < (x3_3.length : Int)) = true := decide_eq_true c9
                            clear c9
                            (first | rw [c9b0] | (simp only [i64_w, i32_w]; rw [c9b0]) | skip)
                            by_cases c10 : 0 ≤ x7_4
                            · rw [if_pos c10] at H
                              have c10b0 : decide (0 ≤ x7_4) = true := decide_eq_true c10
                              clear c10
                              by_cases c11 : 0 ≤ (rd x3_3 x7_4)
                              · rw [if_pos c11] at H
                                have c11b0 : decide (0 ≤ (rd x3_3 x7_4)) = true := decide_eq_true c11
                                clear c11
                                by_cases c12 : (rd x3_3 x7_4) < (l0.length : Int)
                                · rw [if_pos c12] at H
                                  have c12b0 : decide ((rd x3_3 x7_4) < (l0.length : Int)) = true := decide_eq_true c12
                                  clear c12
                                  by_cases c13 : (rd l0 (rd x3_3 x7_4)) ≥ x5_2
                                  · rw [if_pos c13] at H
                                    have c13b0 : decide (x5_2 ≤ (rd l0 (rd x3_3 x7_4))) = true := decide_eq_true c13
                                    clear c13
                                    have H' := Aside0.mk H
                                    clear H
                                    have p410 : 0 ≤ (x7_4 : Int) := of_decide_eq_true (by first | (with_reducible assumption) | assumption)
                                    have q410 : x7_4 < (x3_3.length : Int) := of_decide_eq_true (by first | (with_reducible assumption) | assumption)
                                    obtain ⟨ad410, e410, hx410_0⟩ := Kd.at_int (Kd.R_reads' HO_3.out).2.2 x7_4 p410 q410
                                    cases e410
                                    replace p410 := eq_true p410
                                    replace q410 := eq_true q410
                                    have p411 : 0 ≤ ((rd x3_3 x7_4) : Int) := of_decide_eq_true (by first | (with_reducible assumption) | assumption)
                                    have q411 : (rd x3_3 x7_4) < (l0.length : Int) := of_decide_eq_true (by first | (with_reducible assumption) | assumption)
                                    obtain ⟨ad411, e411, hx411_0⟩ := Kd.at_int HR0.out (rd x3_3 x7_4) p411 q411
                                    cases e411
                                    replace hx411_0 := (HB.out.cell (World.block_lt_of_cell? w _ hx411_0)).trans hx411_0
                                    replace p411 := eq_true p411
                                    replace q411 := eq_true q411
                                    go_wp2
                                    go_roundg k4
                                    case measure => have := HK1.out; have := HK2.out; have := HK3.out; have := HK4.out; omega
                                    case rel => exact ⟨(wrap64 (x7_4 + 1)), (by first | rfl | (simp; done) | (simp [*]; done)), H', ⟨by have := HK1.out; have := HK2.out; have := HK3.out; have := HK4.out; omega⟩, ⟨by (with_reducible repeat (first | apply Kd.R_alloc | apply Kd.R_drewN | apply Kd.R_drew)); exact HO_3.out⟩, ⟨by repeat (first | (with_reducible first | exact HB.out | apply below_alloc | apply pw_below_drewN | apply below_drew1) | exact HB.out)⟩⟩
                                  · rw [if_neg c13] at H
                                    have c13b0 : decide (x5_2 ≤ (rd l0 (rd x3_3 x7_4))) = false := decide_eq_false c13
                                    clear c13
                                    have H' := Aside0.mk H
                                    clear H
                                    have p410 : 0 ≤ (x7_4 : Int) := of_decide_eq_true (by first | (with_reducible assumption) | assumption)
                                    have q410 : x7_4 < (x3_3.length : Int) := of_decide_eq_true (by first | (with_reducible assumption) | assumption)
                                    obtain ⟨ad410, e410, hx410_0⟩ := Kd.at_int (Kd.R_reads' HO_3.out).2.2 x7_4 p410 q410
                                    cases e410
                                    replace p410 := eq_true p410
                                    replace q410 := eq_true q410
                                    have p411 : 0 ≤ ((rd x3_3 x7_4) : Int) := of_decide_eq_true (by first | (with_reducible assumption) | assumption)
                                    have q411 : (rd x3_3 x7_4) < (l0.length : Int) := of_decide_eq_true (by first | (with_reducible assumption) | assumption)
                                    obtain ⟨ad411, e411, hx411_0⟩ := Kd.at_int HR0.out (rd x3_3 x7_4) p411 q411
                                    cases e411
                                    replace hx411_0 := (HB.out.cell (World.block_lt_of_cell? w _ hx411_0)).trans hx411_0
                                    replace p411 := eq_true p411
                                    replace q411 := eq_true q411
                                    go_wp2
                                    go_meet
                                    case rel => exact ⟨_, (x7_4), (by first | rfl | (simp; done) | (simp [*]; done)), H', ⟨by have := HK1.out; have := HK2.out; have := HK3.out; have := HK4.out; first | omega | exact Nat.le_refl _⟩, ⟨by (with_reducible repeat (first | apply Kd.R_alloc | apply Kd.R_drewN | apply Kd.R_drew)); exact HO_3.out⟩, ⟨by repeat (first | (with_reducible first | exact HB.out | apply below_alloc | apply pw_below_drewN | apply below_drew1) | exact HB.out)⟩⟩
                                · rw [if_neg c12] at H
                                  exact absurd H (by simp)
                              · rw [if_neg c11] at H
                                exact absurd H (by simp)
                            · rw [if_neg c10] at H
                              exact absurd H (by simp)
                          · rw [if_neg c9] at H
                            have c9b0 : decide (x7_4 < (x3_3.length : Int)) = false := decide_eq_false c9
                            clear c9
                            (first | rw [c9b0] | (simp only [i64_w, i32_w]; rw [c9b0]) | skip)
                            have H' := Aside0.mk H
                            clear H
                            go_wp2
                            go_meet
                            case rel => exact ⟨_, (x7_4), (by first | rfl | (simp; done) | (simp [*]; done)), H', ⟨by have := HK1.out; have := HK2.out; have := HK3.out; have := HK4.out; first | omega | exact Nat.le_refl _⟩, ⟨by (with_reducible repeat (first | apply Kd.R_alloc | apply Kd.R_drewN | apply Kd.R_drew)); exact HO_3.out⟩, ⟨by repeat (first | (with_reducible first | exact HB.out | apply below_alloc | apply pw_below_drewN | apply below_drew1) | exact HB.out)⟩⟩
                    case rest =>
                      clear HC7
                      try clear c1
                      try clear c2
                      try clear c2b0
                      try clear p2
                      try clear c3
                      try clear p4
                      try clear q4
                      try clear hx4
                      try clear c5
                      try clear c5b0
                      try clear c6
                      try clear c6b0
                      try clear p6
                      try clear c9
                      try clear c9b0
                      try clear c10
                      try clear c10b0
                      try clear c11
                      try clear c11b0
                      try clear c12
                      try clear c12b0
                      try clear c13
                      try clear c13b0
                      try clear hx410_0
                      try clear hx411_0
                      try clear p2
                      try clear p410
                      try clear p411
                      try clear p6
                      try clear q410
                      try clear q411
                      obtain ⟨kq, x7_6, rfl, HA, HJ6, HO_3, HB⟩ := hcut
                      cases kq with
                      | zero => exact absurd HA.out (by simp [abugidaref07_Visual.j4])
                      | succ kj6 =>
                        have H := HA.out
                        clear HA
                        simp only [abugidaref07_Visual.j4] at H
                        have H' := Aside0.mk H
                        clear H
                        go_wp2
                        go_loopg [8, 9] kj6 (fun kq v8 v9 w' => ∃ (x3_5 : List Int) (x8_5 : Int) (x9_5 : Int), v8 = .int .i64 x8_5 ∧ v9 = .int .i64 x9_5 ∧ Aside0 (abugidaref07_Visual.l4 kq l0 x3_5 x5_2 x6_3 x7_6 x8_5 x9_5 = some r) ∧ Aside0 (kq ≤ kj6) ∧ Aside0 (Kd.R (Kd.int .i64) 3 w' w.heap.size (fun _ => True) (.slice Ao8 x3_3.length co8) x3_5) ∧ Aside0 (Below w.heap.size w w'))
                        case atStart => exact ⟨(x3_3), (x6_3), (wrap64 (x7_6 - 1)), (by first | rfl | (simp; done) | (simp [*]; done)), (by first | rfl | (simp; done) | (simp [*]; done)), H', ⟨Nat.le_refl _⟩, ⟨by (with_reducible repeat (first | apply Kd.R_alloc | apply Kd.R_drewN | apply Kd.R_drew)); exact HO_3.out⟩, ⟨by repeat (first | (with_reducible first | exact HB.out | apply below_alloc | apply pw_below_drewN | apply below_drew1) | exact HB.out)⟩⟩
                        case round =>
                          clear H'
                          try clear c1
                          try clear c2
                          try clear c2b0
                          try clear p2
                          try clear c3
                          try clear p4
                          try clear q4
                          try clear hx4
                          try clear c5
                          try clear c5b0
                          try clear c6
                          try clear c6b0
                          try clear p6
                          try clear c9
                          try clear c9b0
                          try clear c10
                          try clear c10b0
                          try clear c11
                          try clear c11b0
                          try clear c12
                          try clear c12b0
                          try clear c13
                          try clear c13b0
                          try clear hx410_0
                          try clear hx411_0
                          try clear p2
                          try clear p4
                          try clear p410
                          try clear p411
                          try clear p6
                          try clear q4
                          try clear q410
                          try clear q411
                          obtain ⟨x3_5, x8_5, x9_5, rfl, rfl, HA, HK5, HO_3, HB⟩ := hrel
                          have hl3_5 := (Kd.R_reads' HO_3.out).1
                          rw [hl3_5] at HO_3
                          (try simp only [hl3_5])
                          cases gk with
                          | zero => exact absurd HA.out (by simp [abugidaref07_Visual.l4])
                          | succ k5 =>
                            have H := HA.out
                            clear HA
                            simp only [abugidaref07_Visual.l4] at H
                            by_cases c14 : x8_5 < x9_5
                            · rw [if_pos c14] at H
                              have c14b0 : decide (x8_5 < x9_5) = true := decide_eq_true c14
                              clear c14
                              by_cases c15 : 0 ≤ x9_5
                              · rw [if_pos c15] at H
                                have c15b0 : decide (0 ≤ x9_5) = true := decide_eq_true c15
                                clear c15
                                by_cases c16 : x9_5 < (x3_5.length : Int)
                                · rw [if_pos c16] at H
                                  have c16b0 : decide (x9_5 < (x3_5.length : Int)) = true := decide_eq_true c16
                                  clear c16
                                  by_cases c17 : 0 ≤ x8_5
                                  · rw [if_pos c17] at H
                                    have c17b0 : decide (0 ≤ x8_5) = true := decide_eq_true c17
                                    clear c17
                                    by_cases c18 : x8_5 < (x3_5.length : Int)
                                    · rw [if_pos c18] at H
                                      have c18b0 : decide (x8_5 < (x3_5.length : Int)) = true := decide_eq_true c18
                                      clear c18
                                      obtain ⟨y414, hy414⟩ : ∃ y_ : List Int, y_ = (x3_5.set (x8_5 : Int).toNat (rd x3_5 x9_5)) := ⟨_, rfl⟩
                                      replace H : (abugidaref07_Visual.l4 k5 l0 (y414.set (x9_5 : Int).toNat (rd x3_5 x8_5)) x5_2 x6_3 x7_6 (wrap64 (x8_5 + 1)) (wrap64 (x9_5 - 1))) = some r := by first | (rw [hy414]; with_reducible exact H) | (have H2_ := (Option.bind_some _ _).symm.trans H; rw [hy414]; with_reducible exact H2_) | (have H2_ := (Option.bind_some _ _).symm.trans H; with_reducible exact H2_) | with_reducible exact H | (rw [hy414]; exact H) | exact H
                                      have Ny414 := Aside0.mk hy414
                                      clear hy414
                                      obtain ⟨y415, hy415⟩ : ∃ y_ : List Int, y_ = (y414.set (x9_5 : Int).toNat (rd x3_5 x8_5)) := ⟨_, rfl⟩
                                      replace H : (abugidaref07_Visual.l4 k5 l0 y415 x5_2 x6_3 x7_6 (wrap64 (x8_5 + 1)) (wrap64 (x9_5 - 1))) = some r := by first | (rw [hy415]; with_reducible exact H) | (have H2_ := (Option.bind_some _ _).symm.trans H; rw [hy415]; with_reducible exact H2_) | (have H2_ := (Option.bind_some _ _).symm.trans H; with_reducible exact H2_) | with_reducible exact H | (rw [hy415]; exact H) | exact H
                                      have Ny415 := Aside0.mk hy415
                                      clear hy415
                                      have H' := Aside0.mk H
                                      clear H
                                      try go_wp2
                                      have n0_ := Aside0.mk (Kd.R_drew HO_3.out)
                                      have n1_ := Aside0.mk (below_drew1 HB.out)
                                      clear HO_3
                                      clear HB
                                      have HO_3 := n0_
                                      have HB := n1_
                                      clear n0_ n1_
                                      have p412 : 0 ≤ (x9_5 : Int) := of_decide_eq_true (by first | (with_reducible assumption) | assumption)
                                      have q412 : x9_5 < (x3_5.length : Int) := of_decide_eq_true (by first | (with_reducible assumption) | assumption)
                                      obtain ⟨ad412, e412, hx412_0⟩ := Kd.at_int (Kd.R_reads' HO_3.out).2.2 x9_5 p412 q412
                                      cases e412
                                      replace p412 := eq_true p412
                                      replace q412 := eq_true q412
                                      have p413 : 0 ≤ (x8_5 : Int) := of_decide_eq_true (by first | (with_reducible assumption) | assumption)
                                      have q413 : x8_5 < (x3_5.length : Int) := of_decide_eq_true (by first | (with_reducible assumption) | assumption)
                                      obtain ⟨ad413, e413, hx413_0⟩ := Kd.at_int (Kd.R_reads' HO_3.out).2.2 x8_5 p413 q413
                                      obtain rfl : ad412 = ad413 := (by injection e413)
                                      replace p413 := eq_true p413
                                      replace q413 := eq_true q413
                                      have p19 : 0 ≤ (x8_5 : Int) := of_decide_eq_true (by first | (with_reducible assumption) | assumption)
                                      have q19 : (x8_5 : Int) < ((x3_5.length : Int) : Int) := of_decide_eq_true (by first | (with_reducible assumption) | assumption)
                                      obtain ⟨go19, co19, eo19, gb19, gl19, cl19, HG19⟩ := Kd.R_form HO_3.out (by omega)
                                      (first | cases eo19 | (injection eo19 with ea_ en_ ec_; (first | subst ea_ | (injection ea_ with ea_; subst ea_)); subst ec_; clear en_))
                                      have GB19 := Aside0.mk gb19
                                      have GG19 := Aside0.mk HG19
                                      clear gb19 gl19 HG19
                                      (first | simp only [add_plain] at hx412_0 | skip)
                                      (first | simp only [add_plain] at hx413_0 | skip)
                                      obtain ⟨hx19_0, hf19_0⟩ := Kd.R_celln 0 HO_3.out (x8_5 : Int) p19 q19
                                      replace p19 := eq_true p19
                                      replace q19 := eq_true q19
                                      have HP22 := Kd.R_putn HO_3.out (x8_5 : Int) (rd x3_5 x9_5)
                                      rw [← Ny414.out] at HP22
                                      have HQ22 := Aside0.mk HP22
                                      clear HP22
                                      have p20 : 0 ≤ (x9_5 : Int) := of_decide_eq_true (by first | (with_reducible assumption) | assumption)
                                      have q20 : (x9_5 : Int) < ((x3_5.length : Int) : Int) := of_decide_eq_true (by first | (with_reducible assumption) | assumption)
                                      obtain ⟨hx20_0, hf20_0⟩ := Kd.R_celln 0 HQ22.out (x9_5 : Int) p20 q20
                                      replace p20 := eq_true p20
                                      replace q20 := eq_true q20
                                      have HP23 := Kd.R_putn HQ22.out (x9_5 : Int) (rd x3_5 x8_5)
                                      rw [← Ny415.out] at HP23
                                      have HQ23 := Aside0.mk HP23
                                      clear HP23
                                      refine start_ (n := 16) (S := fun w' => w'.cell? ⟨go19, (x9_5).toNat, none⟩ = some (.int .i64 (rd x3_5 x9_5)) ∧ w'.cell? ⟨go19, (x8_5).toNat, none⟩ = some (.int .i64 (rd x3_5 x8_5))) (ds := [13, 15]) #[false, false, false, false, false, false, false, false, false, false, false, false, false, false, false, false] (by kernel_rfl) rfl rfl ⟨hx412_0, hx413_0⟩ (fun hHeld => ?_); refine with_tabW abugidaref07_Visual.tab18 abugidaref07_Visual.bits18 (fun HT_ HW_ => ?_)
                                      generalize wr.drew = w21 at HO_3 HB GG19 HQ22 HQ23 hf19_0 hf20_0 hx19_0 hx20_0 hx412_0 hx413_0 hHeld ⊢
                                      refine pure_ (i := 0) (N := some 58) (v := ?_) (a' := ?_) #[true, false, false, false, false, false, false, false, false, false, false, false, false, false, false, false] rfl rfl (any_of HT_.out (by kernel_rfl)) (fun _ _ _ h => h) (Or.inl ⟨by rfl, ?_⟩) ?_ ?_
                                      rotate_left
                                      · intro w'
                                        go_simp
                                        with_reducible rfl
                                      rotate_left
                                      · simp only [Act.put, List.setIfInBounds_toArray, List.set_cons_zero, List.set_cons_succ, i64_w, i32_w]
                                        rfl
                                      refine pure_ (i := 1) (N := some 59) (v := ?_) (a' := ?_) #[true, true, false, false, false, false, false, false, false, false, false, false, false, false, false, false] rfl rfl (any_of HT_.out (by kernel_rfl)) (fun _ _ _ h => h) (Or.inl ⟨by rfl, ?_⟩) ?_ ?_
                                      rotate_left
                                      · intro w'
                                        go_simp
                                        with_reducible rfl
                                      rotate_left
                                      · simp only [Act.put, List.setIfInBounds_toArray, List.set_cons_zero, List.set_cons_succ, i64_w, i32_w]
                                        rfl
                                      refine pure_ (i := 2) (N := some 60) (v := ?_) (a' := ?_) #[true, true, true, false, false, false, false, false, false, false, false, false, false, false, false, false] rfl rfl (any_of HT_.out (by kernel_rfl)) (fun _ _ _ h => h) (Or.inl ⟨by rfl, ?_⟩) ?_ ?_
                                      rotate_left
                                      · intro w'
                                        go_simp
                                        with_reducible rfl
                                      rotate_left
                                      · simp only [Act.put, List.setIfInBounds_toArray, List.set_cons_zero, List.set_cons_succ, i64_w, i32_w]
                                        rfl
                                      refine pure_ (i := 3) (N := some 61) (v := ?_) (a' := ?_) #[true, true, true, true, false, false, false, false, false, false, false, false, false, false, false, false] rfl rfl (any_of HT_.out (by kernel_rfl)) (fun _ _ _ h => h) (Or.inl ⟨by rfl, ?_⟩) ?_ ?_
                                      rotate_left
                                      · intro w'
                                        go_simp
                                        with_reducible rfl
                                      rotate_left
                                      · simp only [Act.put, List.setIfInBounds_toArray, List.set_cons_zero, List.set_cons_succ, i64_w, i32_w]
                                        rfl
                                      refine pure_ (i := 4) (N := some 62) (v := ?_) (a' := ?_) #[true, true, true, true, true, false, false, false, false, false, false, false, false, false, false, false] rfl rfl (any_of HT_.out (by kernel_rfl)) (fun _ _ _ h => h) (Or.inl ⟨by rfl, ?_⟩) ?_ ?_
                                      rotate_left
                                      · intro w'
                                        go_simp
                                        with_reducible rfl
                                      rotate_left
                                      · simp only [Act.put, List.setIfInBounds_toArray, List.set_cons_zero, List.set_cons_succ, i64_w, i32_w]
                                        rfl
                                      refine pure_ (i := 5) (N := some 63) (v := ?_) (a' := ?_) #[true, true, true, true, true, true, false, false, false, false, false, false, false, false, false, false] rfl rfl (any_of HT_.out (by kernel_rfl)) (fun _ _ _ h => h) (Or.inl ⟨by rfl, ?_⟩) ?_ ?_
                                      rotate_left
                                      · intro w'
                                        go_simp
                                        with_reducible rfl
                                      rotate_left
                                      · simp only [Act.put, List.setIfInBounds_toArray, List.set_cons_zero, List.set_cons_succ, i64_w, i32_w]
                                        rfl
                                      refine pure_ (i := 6) (N := some 64) (v := ?_) (a' := ?_) #[true, true, true, true, true, true, true, false, false, false, false, false, false, false, false, false] rfl rfl (any_of HT_.out (by kernel_rfl)) (fun _ _ _ h => h) (Or.inl ⟨by rfl, ?_⟩) ?_ ?_
                                      rotate_left
                                      · intro w'
                                        go_simp
                                        with_reducible rfl
                                      rotate_left
                                      · simp only [Act.put, List.setIfInBounds_toArray, List.set_cons_zero, List.set_cons_succ, i64_w, i32_w]
                                        rfl
                                      refine pure_ (i := 8) (N := some 66) (v := ?_) (a' := ?_) #[true, true, true, true, true, true, true, false, true, false, false, false, false, false, false, false] rfl rfl (any_of HT_.out (by kernel_rfl)) (fun _ _ _ h => h) (Or.inl ⟨by rfl, ?_⟩) ?_ ?_
                                      rotate_left
                                      · intro w'
                                        go_simp
                                        with_reducible rfl
                                      rotate_left
                                      · simp only [Act.put, List.setIfInBounds_toArray, List.set_cons_zero, List.set_cons_succ, i64_w, i32_w]
                                        rfl
                                      refine pure_ (i := 9) (N := some 67) (v := ?_) (a' := ?_) #[true, true, true, true, true, true, true, false, true, true, false, false, false, false, false, false] rfl rfl (any_of HT_.out (by kernel_rfl)) (fun _ _ _ h => h) (Or.inl ⟨by rfl, ?_⟩) ?_ ?_
                                      rotate_left
                                      · intro w'
                                        go_simp
                                        with_reducible rfl
                                      rotate_left
                                      · simp only [Act.put, List.setIfInBounds_toArray, List.set_cons_zero, List.set_cons_succ, i64_w, i32_w]
                                        rfl
                                      refine pure_ (i := 10) (N := some 68) (v := ?_) (a' := ?_) #[true, true, true, true, true, true, true, false, true, true, true, false, false, false, false, false] rfl rfl (any_of HT_.out (by kernel_rfl)) (fun _ _ _ h => h) (Or.inl ⟨by rfl, ?_⟩) ?_ ?_
                                      rotate_left
                                      · intro w'
                                        go_simp
                                        with_reducible rfl
                                      rotate_left
                                      · simp only [Act.put, List.setIfInBounds_toArray, List.set_cons_zero, List.set_cons_succ, i64_w, i32_w]
                                        rfl
                                      refine take_ (i := 7) (N := some 65) (v := ?_) (a' := ?_) #[true, true, true, true, true, true, true, true, true, true, true, false, false, false, false, false] rfl rfl (take_ofW HT_.out HW_.out (by kernel_rfl)) (fun _ _ _ h => h) (Or.inl ⟨by rfl, ?_⟩) hHeld ?_ ?_
                                      rotate_left
                                      · rintro w' ⟨s0, s1⟩
                                        go_simp
                                        with_reducible rfl
                                      rotate_left
                                      · simp only [Act.put, List.setIfInBounds_toArray, List.set_cons_zero, List.set_cons_succ, i64_w, i32_w]
                                        rfl
                                      refine take_ (i := 11) (N := some 69) (v := ?_) (a' := ?_) #[true, true, true, true, true, true, true, true, true, true, true, true, false, false, false, false] rfl rfl (take_ofW HT_.out HW_.out (by kernel_rfl)) (fun _ _ _ h => h) (Or.inl ⟨by rfl, ?_⟩) hHeld ?_ ?_
                                      rotate_left
                                      · rintro w' ⟨s0, s1⟩
                                        go_simp
                                        with_reducible rfl
                                      rotate_left
                                      · simp only [Act.put, List.setIfInBounds_toArray, List.set_cons_zero, List.set_cons_succ, i64_w, i32_w]
                                        rfl
                                      refine pure_ (i := 12) (N := some 70) (v := ?_) (a' := ?_) #[true, true, true, true, true, true, true, true, true, true, true, true, true, false, false, false] rfl rfl (any_of HT_.out (by kernel_rfl)) (fun _ _ _ h => h) (Or.inl ⟨by rfl, ?_⟩) ?_ ?_
                                      rotate_left
                                      · intro w'
                                        go_simp
                                        with_reducible rfl
                                      rotate_left
                                      · simp only [Act.put, List.setIfInBounds_toArray, List.set_cons_zero, List.set_cons_succ, i64_w, i32_w]
                                        rfl
                                      refine last_ (i := 13) (N := none) #[true, true, true, true, true, true, true, true, true, true, true, true, true, true, false, false] rfl rfl (one_of HT_.out (by kernel_rfl)) (by decide) (fun K hK => ?_)
                                      refine skip_ (w1 := ?_) (by rfl) rfl ?_ ?_
                                      rotate_left
                                      · go_simp
                                        rfl
                                      refine hK.out _ _ ?_
                                      clear hK K
                                      refine pure_ (i := 14) (N := some 71) (v := ?_) (a' := ?_) #[true, true, true, true, true, true, true, true, true, true, true, true, true, true, true, false] rfl rfl (any_of HT_.out (by kernel_rfl)) (fun _ _ _ h => h) (Or.inl ⟨by rfl, ?_⟩) ?_ ?_
                                      rotate_left
                                      · intro w'
                                        go_simp
                                        with_reducible rfl
                                      rotate_left
                                      · simp only [Act.put, List.setIfInBounds_toArray, List.set_cons_zero, List.set_cons_succ, i64_w, i32_w]
                                        rfl
                                      refine last_ (i := 15) (N := none) #[true, true, true, true, true, true, true, true, true, true, true, true, true, true, true, true] rfl rfl (one_of HT_.out (by kernel_rfl)) (by decide) (fun K hK => ?_)
                                      refine skip_ (w1 := ?_) (by rfl) rfl ?_ ?_
                                      rotate_left
                                      · go_simp
                                        rfl
                                      refine hK.out _ _ ?_
                                      clear hK K
                                      refine done_ (done_of HT_.out (by kernel_rfl)) ?_
                                      try go_wp2
                                      (try simp only [← hl3_5])
                                      go_roundg k5
                                      case measure => have := HK1.out; have := HK2.out; have := HK3.out; have := HJ6.out; have := HK5.out; omega
                                      case rel => exact ⟨(y415), (wrap64 (x8_5 + 1)), (wrap64 (x9_5 - 1)), (by first | rfl | (simp; done) | (simp [*]; done)), (by first | rfl | (simp; done) | (simp [*]; done)), H', ⟨by have := HK1.out; have := HK2.out; have := HK3.out; have := HJ6.out; have := HK5.out; omega⟩, ⟨by (try simp only [hl3_5]); (with_reducible repeat (first | apply Kd.R_alloc | apply Kd.R_drewN | apply Kd.R_drew)); exact HQ23.out⟩, ⟨by repeat (first | (with_reducible first | exact HB.out | apply below_alloc | apply pw_below_drewN | apply below_drew1 | refine below_set ?_ GB19.out | refine below_set ?_ GB19.out) | exact HB.out)⟩⟩
                                    · rw [if_neg c18] at H
                                      exact absurd H (by simp)
                                  · rw [if_neg c17] at H
                                    exact absurd H (by simp)
                                · rw [if_neg c16] at H
                                  exact absurd H (by simp)
                              · rw [if_neg c15] at H
                                exact absurd H (by simp)
                            · rw [if_neg c14] at H
                              have c14b0 : decide (x8_5 < x9_5) = false := decide_eq_false c14
                              clear c14
                              by_cases c24 : x7_6 > x6_3
                              · rw [if_pos c24] at H
                                have c24b0 : decide (x6_3 < x7_6) = true := decide_eq_true c24
                                clear c24
                                have H' := Aside0.mk H
                                clear H
                                go_wp2
                                (try simp only [← hl3_5])
                                go_roundg k5
                                case measure => have := HK1.out; have := HK2.out; have := HK3.out; have := HJ6.out; have := HK5.out; omega
                                case rel => exact ⟨(x3_5), (wrap64 ((wrap64 (x7_6 - 1)) + 1)), (by first | rfl | (simp; done) | (simp [*]; done)), H', ⟨by have := HK1.out; have := HK2.out; have := HK3.out; have := HJ6.out; have := HK5.out; omega⟩, ⟨by (try simp only [hl3_5]); (with_reducible repeat (first | apply Kd.R_alloc | apply Kd.R_drewN | apply Kd.R_drew)); exact HO_3.out⟩, ⟨by repeat (first | (with_reducible first | exact HB.out | apply below_alloc | apply pw_below_drewN | apply below_drew1) | exact HB.out)⟩⟩
                              · rw [if_neg c24] at H
                                have c24b0 : decide (x6_3 < x7_6) = false := decide_eq_false c24
                                clear c24
                                have H' := Aside0.mk H
                                clear H
                                go_wp2
                                (try simp only [← hl3_5])
                                go_roundg k5
                                case measure => have := HK1.out; have := HK2.out; have := HK3.out; have := HJ6.out; have := HK5.out; omega
                                case rel => exact ⟨(x3_5), (wrap64 (x6_3 + 1)), (by first | rfl | (simp; done) | (simp [*]; done)), H', ⟨by have := HK1.out; have := HK2.out; have := HK3.out; have := HJ6.out; have := HK5.out; omega⟩, ⟨by (try simp only [hl3_5]); (with_reducible repeat (first | apply Kd.R_alloc | apply Kd.R_drewN | apply Kd.R_drew)); exact HO_3.out⟩, ⟨by repeat (first | (with_reducible first | exact HB.out | apply below_alloc | apply pw_below_drewN | apply below_drew1) | exact HB.out)⟩⟩
                  · rw [if_neg c6] at H
                    have c6b0 : decide (x6_3 < (x3_3.length : Int)) = false := decide_eq_false c6
                    clear c6
                    have H' := Aside0.mk H
                    clear H
                    obtain ⟨Ao25, co25, eo25⟩ := Kd.R_slice HO_3.out
                    subst eo25
                    go_wp2
                    go_roundg k3
                    case measure => have := HK1.out; have := HK2.out; have := HK3.out; omega
                    case rel => exact ⟨(x3_3), (wrap64 (x5_2 - 1)), (by first | rfl | (simp; done) | (simp [*]; done)), H', ⟨by have := HK1.out; have := HK2.out; have := HK3.out; omega⟩, ⟨by (with_reducible repeat (first | apply Kd.R_alloc | apply Kd.R_drewN | apply Kd.R_drew)); exact HO_3.out⟩, ⟨by repeat (first | (with_reducible first | exact HB.out | apply below_alloc | apply pw_below_drewN | apply below_drew1) | exact HB.out)⟩⟩
            · rw [if_neg c5] at H
              have c5b0 : decide (1 ≤ x5_2) = false := decide_eq_false c5
              clear c5
              obtain rfl := Option.some.inj H
              go_wp2
              go_ret
              exact ⟨_, by first | rfl | (simp [errW_none, errW_some] <;> rfl) | (simp [*, errW_none, errW_some] <;> rfl), by (with_reducible repeat (first | apply Kd.R_alloc | apply Kd.R_drewN | apply Kd.R_drew)); exact HO_3.out, by repeat (first | (with_reducible first | exact HB.out | apply below_alloc | apply pw_below_drewN | apply below_drew1) | exact HB.out)⟩

-- NOT PRINTED: function 5 (abugidalaw07_OrderVisual)

end Go.Proofs.Ytacnckneiklgpaa.Q

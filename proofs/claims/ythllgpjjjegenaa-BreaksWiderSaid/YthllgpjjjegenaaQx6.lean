-- Written by wip/tools/myprint.py, a program of this session that drives the kit's print.py; not a text of print.sh.
import Derived.Test.YthllgpjjjegenaaQx0
import Derived.Test.YthllgpjjjegenaaQx5
namespace Go.Proofs.Ythllgpjjjegenaa.Q
open Go.RowKit Go.Proofs.YthllgpjjjegenaaW.PrintWords Go.Proofs.YthllgpjjjegenaaW.PrintLast Go.Proofs.YthllgpjjjegenaaW.PrintMore
attribute [local go_sem] max2_int min2_int max_two min_two max_three min_three max_four min_four   -- for this text's walks alone
set_option linter.unusedVariables false
set_option linter.unusedSimpArgs false

/-! ### breaks_Fill_2: function 34 -/
mutual
def breaks_Fill_2.l0 : Nat → Int → Int → Int → Int → Int → Int → Int → List Int → List Bool → Int → List Int → Option (Int)
  | 0, _, _, _, _, _, _, _, _, _, _, _ => none
  | k + 1, x0, x9, x10, x11, x12, x13, x51000, x53000, x54000, x55000, x56000 => if x12 < x51000 then (if 0 ≤ x12 then (if x12 < (x53000.length : Int) then ((breaks_Fill_1.f (rd x53000 x12)).bind fun t166 => (if x12 < (x54000.length : Int) then (if rdOf false x54000 x12 = true then (breaks_Fill_2.j1 k x0 x9 x10 x11 x12 (wrap64 (x13 + t166)) x51000 x53000 x54000 x55000 x56000) else (breaks_Fill_2.j1 k x0 x9 x10 (wrap64 (x11 + (wrap64 (x13 + t166)))) x12 0 x51000 x53000 x54000 x55000 x56000)) else (none))) else (none)) else (none)) else (if x9 < (wrap64 (x51000 - 1)) then (if x10 ≥ 0 then (some x10) else (some x9)) else (some x9))
def breaks_Fill_2.j1 : Nat → Int → Int → Int → Int → Int → Int → Int → List Int → List Bool → Int → List Int → Option (Int)
  | 0, _, _, _, _, _, _, _, _, _, _, _ => none
  | k + 1, x0, x9, x10, x11, x12, x13, x51000, x53000, x54000, x55000, x56000 => (breaks_Fill_1.f x55000).bind fun t168 => (if x11 > t168 then (breaks_Fill_2.j2 k x0 x9 x10 x11 x12 x13 (decide (x12 > x0)) x51000 x53000 x54000 x55000 x56000) else (breaks_Fill_2.j2 k x0 x9 x10 x11 x12 x13 false x51000 x53000 x54000 x55000 x56000))
def breaks_Fill_2.j2 : Nat → Int → Int → Int → Int → Int → Int → Bool → Int → List Int → List Bool → Int → List Int → Option (Int)
  | 0, _, _, _, _, _, _, _, _, _, _, _, _ => none
  | k + 1, x0, x9, x10, x11, x12, x13, x46, x51000, x53000, x54000, x55000, x56000 => if x46 = true then (if x9 < (wrap64 (x51000 - 1)) then (if x10 ≥ 0 then (some x10) else (some x9)) else (some x9)) else ((breaks_Fill_1.f x55000).bind fun t169 => (if x11 > t169 then (if x12 < (wrap64 (x51000 - 1)) then (if x10 ≥ 0 then (some x10) else (some x12)) else (some x12)) else (if 0 ≤ x12 then (if x12 < (x56000.length : Int) then (if (rd x56000 x12) = 2 then (some x12) else (if (rd x56000 x12) = 1 then (breaks_Fill_2.l0 k x0 x12 x12 x11 (wrap64 (x12 + 1)) x13 x51000 x53000 x54000 x55000 x56000) else (breaks_Fill_2.l0 k x0 x12 x10 x11 (wrap64 (x12 + 1)) x13 x51000 x53000 x54000 x55000 x56000))) else (none)) else (none))))
end
def breaks_Fill_2.f (k : Nat) (a0 : Int) (a1 : Int) (l2 : List Int) (l3 : List Bool) (a4 : Int) (l5 : List Int) : Option (Int) := breaks_Fill_2.l0 k a0 a0 (-1) 0 a0 0 a1 l2 l3 a4 l5
theorem breaks_Fill_2.mono_l : ∀ k, (∀ y0 y1 y2 y3 y4 y5 y6 y7 y8 y9 y10, LeO (breaks_Fill_2.l0 k y0 y1 y2 y3 y4 y5 y6 y7 y8 y9 y10) (breaks_Fill_2.l0 (k + 1) y0 y1 y2 y3 y4 y5 y6 y7 y8 y9 y10)) ∧ (∀ y0 y1 y2 y3 y4 y5 y6 y7 y8 y9 y10, LeO (breaks_Fill_2.j1 k y0 y1 y2 y3 y4 y5 y6 y7 y8 y9 y10) (breaks_Fill_2.j1 (k + 1) y0 y1 y2 y3 y4 y5 y6 y7 y8 y9 y10)) ∧ (∀ y0 y1 y2 y3 y4 y5 y6 y7 y8 y9 y10 y11, LeO (breaks_Fill_2.j2 k y0 y1 y2 y3 y4 y5 y6 y7 y8 y9 y10 y11) (breaks_Fill_2.j2 (k + 1) y0 y1 y2 y3 y4 y5 y6 y7 y8 y9 y10 y11))
  | 0 => ⟨fun _ _ _ _ _ _ _ _ _ _ _ r h => by simp [breaks_Fill_2.l0] at h, fun _ _ _ _ _ _ _ _ _ _ _ r h => by simp [breaks_Fill_2.j1] at h, fun _ _ _ _ _ _ _ _ _ _ _ _ r h => by simp [breaks_Fill_2.j2] at h⟩
  | k + 1 => by
    obtain ⟨ih0, ih1, ih2⟩ := breaks_Fill_2.mono_l k
    refine ⟨?_, ?_, ?_⟩
    · intro y0 y1 y2 y3 y4 y5 y6 y7 y8 y9 y10
      unfold breaks_Fill_2.l0
      repeat' first
      | (with_reducible exact ih0 _ _ _ _ _ _ _ _ _ _ _)
      | (with_reducible exact ih1 _ _ _ _ _ _ _ _ _ _ _)
      | (with_reducible exact ih2 _ _ _ _ _ _ _ _ _ _ _ _)
      | (with_reducible exact LeO.refl _)
      | (with_reducible exact LeO.none _)
      | (with_reducible refine LeO.ite ?_ ?_)
      | (with_reducible refine LeO.bind ?_ (fun _ => ?_))
      | exact ih0 _ _ _ _ _ _ _ _ _ _ _
      | exact ih1 _ _ _ _ _ _ _ _ _ _ _
      | exact ih2 _ _ _ _ _ _ _ _ _ _ _ _
      | exact LeO.none _
      | refine LeO.ite ?_ ?_
      | refine LeO.bind ?_ (fun _ => ?_)
    · intro y0 y1 y2 y3 y4 y5 y6 y7 y8 y9 y10
      unfold breaks_Fill_2.j1
      repeat' first
      | (with_reducible exact ih0 _ _ _ _ _ _ _ _ _ _ _)
      | (with_reducible exact ih1 _ _ _ _ _ _ _ _ _ _ _)
      | (with_reducible exact ih2 _ _ _ _ _ _ _ _ _ _ _ _)
      | (with_reducible exact LeO.refl _)
      | (with_reducible exact LeO.none _)
      | (with_reducible refine LeO.ite ?_ ?_)
      | (with_reducible refine LeO.bind ?_ (fun _ => ?_))
      | exact ih0 _ _ _ _ _ _ _ _ _ _ _
      | exact ih1 _ _ _ _ _ _ _ _ _ _ _
      | exact ih2 _ _ _ _ _ _ _ _ _ _ _ _
      | exact LeO.none _
      | refine LeO.ite ?_ ?_
      | refine LeO.bind ?_ (fun _ => ?_)
    · intro y0 y1 y2 y3 y4 y5 y6 y7 y8 y9 y10 y11
      unfold breaks_Fill_2.j2
      repeat' first
      | (with_reducible exact ih0 _ _ _ _ _ _ _ _ _ _ _)
      | (with_reducible exact ih1 _ _ _ _ _ _ _ _ _ _ _)
      | (with_reducible exact ih2 _ _ _ _ _ _ _ _ _ _ _ _)
      | (with_reducible exact LeO.refl _)
      | (with_reducible exact LeO.none _)
      | (with_reducible refine LeO.ite ?_ ?_)
      | (with_reducible refine LeO.bind ?_ (fun _ => ?_))
      | exact ih0 _ _ _ _ _ _ _ _ _ _ _
      | exact ih1 _ _ _ _ _ _ _ _ _ _ _
      | exact ih2 _ _ _ _ _ _ _ _ _ _ _ _
      | exact LeO.none _
      | refine LeO.ite ?_ ?_
      | refine LeO.bind ?_ (fun _ => ?_)
theorem breaks_Fill_2.mono : ∀ a0 a1 a2 a3 a4 a5 k, LeO (breaks_Fill_2.f k a0 a1 a2 a3 a4 a5) (breaks_Fill_2.f (k + 1) a0 a1 a2 a3 a4 a5) := by
  intro a0 a1 a2 a3 a4 a5 k
  obtain ⟨ih0, ih1, ih2⟩ := breaks_Fill_2.mono_l k
  unfold breaks_Fill_2.f
  repeat' first
      | (with_reducible exact ih0 _ _ _ _ _ _ _ _ _ _ _)
      | (with_reducible exact ih1 _ _ _ _ _ _ _ _ _ _ _)
      | (with_reducible exact ih2 _ _ _ _ _ _ _ _ _ _ _ _)
      | (with_reducible exact LeO.refl _)
      | (with_reducible exact LeO.none _)
      | (with_reducible refine LeO.ite ?_ ?_)
      | (with_reducible refine LeO.bind ?_ (fun _ => ?_))
      | exact ih0 _ _ _ _ _ _ _ _ _ _ _
      | exact ih1 _ _ _ _ _ _ _ _ _ _ _
      | exact ih2 _ _ _ _ _ _ _ _ _ _ _ _
      | exact LeO.none _
      | refine LeO.ite ?_ ?_
      | refine LeO.bind ?_ (fun _ => ?_)
def breaks_Fill_2.T5 : Bool × List (List Nat × List Nat) := (true, [([], []), ([], []), ([], []), ([], []), ([2, 3], [2, 3]), ([4], [4]), ([1, 5], [1, 5]), ([0, 6], [0, 6]), ([7, 6, 0, 1, 2, 3, 4, 5, 6, 7], [0, 7])])
def breaks_Fill_2.B5 : List Nat := [0, 0, 0, 0, 12, 28, 62, 127, 255]
theorem breaks_Fill_2.tab5 : rtab .any (opsOf Try.f34 5) = breaks_Fill_2.T5 := by kernel_rfl
theorem breaks_Fill_2.bits5 : waitsOk breaks_Fill_2.T5.2 breaks_Fill_2.B5 = true := by kernel_rfl
set_option maxHeartbeats 8000000 in
set_option maxRecDepth 100000 in
theorem breaks_Fill_2.calls (k : Nat) {gb50 : Nat} {gb51 : Nat} {gb52 : Nat} {gb53 : Nat} {gb54 : Nat} {gb55 : Nat} (a0 : Int) (a1 : Int) (A2 : Option Addr) (c2 : Nat) (l2 : List Int) (A3 : Option Addr) (c3 : Nat) (l3 : List Bool) (a4 : Int) (A5 : Option Addr) (c5 : Nat) (l5 : List Int) (r : Int) (w : World) (hr2 : Kd.C (Kd.int .i64) w A2 l2.length l2) (hc2 : l2.length ≤ c2) (hr3 : Kd.C Kd.bool w A3 l3.length l3) (hc3 : l3.length ≤ c3) (hr5 : Kd.C (Kd.int .i64) w A5 l5.length l5) (hc5 : l5.length ≤ c5) (hb50 : w.heap[gb50]? = some (.cells #[.int .i64 a1] 3 (0, 0))) (hb51 : w.heap[gb51]? = some (.cells #[.func (.func 33) #[] #[]] 30 (0, 0))) (hb52 : w.heap[gb52]? = some (.cells #[.slice A2 l2.length c2] 22 (0, 0))) (hb53 : w.heap[gb53]? = some (.cells #[.slice A3 l3.length c3] 35 (0, 0))) (hb54 : w.heap[gb54]? = some (.cells #[.int .i64 a4] 3 (0, 0))) (hb55 : w.heap[gb55]? = some (.cells #[.slice A5 l5.length c5] 22 (0, 0))) (hn50_51 : gb50 ≠ gb51) (hn50_52 : gb50 ≠ gb52) (hn50_53 : gb50 ≠ gb53) (hn50_54 : gb50 ≠ gb54) (hn50_55 : gb50 ≠ gb55) (hn51_52 : gb51 ≠ gb52) (hn51_53 : gb51 ≠ gb53) (hn51_54 : gb51 ≠ gb54) (hn51_55 : gb51 ≠ gb55) (hn52_53 : gb52 ≠ gb53) (hn52_54 : gb52 ≠ gb54) (hn52_55 : gb52 ≠ gb55) (hn53_54 : gb53 ≠ gb54) (hn53_55 : gb53 ≠ gb55) (hn54_55 : gb54 ≠ gb55) (h : breaks_Fill_2.f k a0 a1 l2 l3 a4 l5 = some r) :
    Calls Try.prog 34 #[.int .i64 a0, .pointer (some ⟨gb50, 0, none⟩), .pointer (some ⟨gb51, 0, none⟩), .pointer (some ⟨gb52, 0, none⟩), .pointer (some ⟨gb53, 0, none⟩), .pointer (some ⟨gb54, 0, none⟩), .pointer (some ⟨gb55, 0, none⟩)] w fun e w' => e = .returned (.int .i64 r) ∧ Below w.heap.size w w' := by
  have HR2 := Aside0.mk hr2
  have HC2 := Aside0.mk hc2
  clear hr2 hc2
  have HR3 := Aside0.mk hr3
  have HC3 := Aside0.mk hc3
  clear hr3 hc3
  have HR5 := Aside0.mk hr5
  have HC5 := Aside0.mk hc5
  clear hr5 hc5
  have BK50 := Aside0.mk hb50
  clear hb50
  have BK51 := Aside0.mk hb51
  clear hb51
  have BK52 := Aside0.mk hb52
  clear hb52
  have BK53 := Aside0.mk hb53
  clear hb53
  have BK54 := Aside0.mk hb54
  clear hb54
  have BK55 := Aside0.mk hb55
  clear hb55
  have NB50_51 := Aside0.mk hn50_51
  have NB51_50 := Aside0.mk (Ne.symm hn50_51)
  clear hn50_51
  have NB50_52 := Aside0.mk hn50_52
  have NB52_50 := Aside0.mk (Ne.symm hn50_52)
  clear hn50_52
  have NB50_53 := Aside0.mk hn50_53
  have NB53_50 := Aside0.mk (Ne.symm hn50_53)
  clear hn50_53
  have NB50_54 := Aside0.mk hn50_54
  have NB54_50 := Aside0.mk (Ne.symm hn50_54)
  clear hn50_54
  have NB50_55 := Aside0.mk hn50_55
  have NB55_50 := Aside0.mk (Ne.symm hn50_55)
  clear hn50_55
  have NB51_52 := Aside0.mk hn51_52
  have NB52_51 := Aside0.mk (Ne.symm hn51_52)
  clear hn51_52
  have NB51_53 := Aside0.mk hn51_53
  have NB53_51 := Aside0.mk (Ne.symm hn51_53)
  clear hn51_53
  have NB51_54 := Aside0.mk hn51_54
  have NB54_51 := Aside0.mk (Ne.symm hn51_54)
  clear hn51_54
  have NB51_55 := Aside0.mk hn51_55
  have NB55_51 := Aside0.mk (Ne.symm hn51_55)
  clear hn51_55
  have NB52_53 := Aside0.mk hn52_53
  have NB53_52 := Aside0.mk (Ne.symm hn52_53)
  clear hn52_53
  have NB52_54 := Aside0.mk hn52_54
  have NB54_52 := Aside0.mk (Ne.symm hn52_54)
  clear hn52_54
  have NB52_55 := Aside0.mk hn52_55
  have NB55_52 := Aside0.mk (Ne.symm hn52_55)
  clear hn52_55
  have NB53_54 := Aside0.mk hn53_54
  have NB54_53 := Aside0.mk (Ne.symm hn53_54)
  clear hn53_54
  have NB53_55 := Aside0.mk hn53_55
  have NB55_53 := Aside0.mk (Ne.symm hn53_55)
  clear hn53_55
  have NB54_55 := Aside0.mk hn54_55
  have NB55_54 := Aside0.mk (Ne.symm hn54_55)
  clear hn54_55
  have HB := Aside0.mk (Below.refl w.heap.size w)
  have H : (breaks_Fill_2.l0 k a0 a0 (-1) 0 a0 0 a1 l2 l3 a4 l5) = some r := h
  clear h
  have H' := Aside0.mk H
  clear H
  go_enter Try.func34, Try.ntmps34
  try go_wp2
  try (go_step3; try go_wp2)
  try (go_step3; try go_wp2)
  repeat (go_quiet (fail); try go_wp2)
  go_loopg [9, 10, 11, 12, 13] k (fun kq v9 v10 v11 v12 v13 w' => ∃ (x9_1 : Int) (x10_1 : Int) (x11_1 : Int) (x12_1 : Int) (x13_1 : Int), v9 = .int .i64 x9_1 ∧ v10 = .int .i64 x10_1 ∧ v11 = .int .i64 x11_1 ∧ v12 = .int .i64 x12_1 ∧ v13 = .int .i64 x13_1 ∧ Aside0 (breaks_Fill_2.l0 kq a0 x9_1 x10_1 x11_1 x12_1 x13_1 a1 l2 l3 a4 l5 = some r) ∧ Aside0 (kq ≤ k) ∧ Aside0 (w'.heap[gb50]? = some (.cells #[.int .i64 a1] 3 (0, 0))) ∧ Aside0 (w'.heap[gb51]? = some (.cells #[(.func (.func 33) #[] #[])] 30 (0, 0))) ∧ Aside0 (w'.heap[gb52]? = some (.cells #[(.slice A2 l2.length c2)] 22 (0, 0))) ∧ Aside0 (w'.heap[gb53]? = some (.cells #[(.slice A3 l3.length c3)] 35 (0, 0))) ∧ Aside0 (w'.heap[gb54]? = some (.cells #[.int .i64 a4] 3 (0, 0))) ∧ Aside0 (w'.heap[gb55]? = some (.cells #[(.slice A5 l5.length c5)] 22 (0, 0))) ∧ Aside0 (Below w.heap.size w w'))
  case atStart => exact ⟨(a0), ((-1)), (0), (a0), (0), (by first | rfl | (simp; done) | (simp [*]; done)), (by first | rfl | (simp; done) | (simp [*]; done)), (by first | rfl | (simp; done) | (simp [*]; done)), (by first | rfl | (simp; done) | (simp [*]; done)), (by first | rfl | (simp; done) | (simp [*]; done)), H', ⟨Nat.le_refl _⟩, ⟨by (with_reducible repeat (first | refine blk_drewN ?_ _ | refine blk_drew ?_ | refine blk_alloc ?_ _)); exact BK50.out⟩, ⟨by (with_reducible repeat (first | refine blk_drewN ?_ _ | refine blk_drew ?_ | refine blk_alloc ?_ _)); exact BK51.out⟩, ⟨by (with_reducible repeat (first | refine blk_drewN ?_ _ | refine blk_drew ?_ | refine blk_alloc ?_ _)); exact BK52.out⟩, ⟨by (with_reducible repeat (first | refine blk_drewN ?_ _ | refine blk_drew ?_ | refine blk_alloc ?_ _)); exact BK53.out⟩, ⟨by (with_reducible repeat (first | refine blk_drewN ?_ _ | refine blk_drew ?_ | refine blk_alloc ?_ _)); exact BK54.out⟩, ⟨by (with_reducible repeat (first | refine blk_drewN ?_ _ | refine blk_drew ?_ | refine blk_alloc ?_ _)); exact BK55.out⟩, ⟨by repeat (first | (with_reducible first | exact HB.out | apply below_alloc | apply pw_below_drewN | apply below_drew1 | refine below_set ?_ GE50.out | refine below_set ?_ GE51.out | refine below_set ?_ GE52.out | refine below_set ?_ GE53.out | refine below_set ?_ GE54.out | refine below_set ?_ GE55.out) | exact HB.out)⟩⟩
  case round =>
    clear H'
    try clear c2
    try clear p2
    try clear c3
    try clear p3
    try clear c5
    obtain ⟨x9_1, x10_1, x11_1, x12_1, x13_1, rfl, rfl, rfl, rfl, rfl, HA, HK1, BK50, BK51, BK52, BK53, BK54, BK55, HB⟩ := hrel
    cases gk with
    | zero => exact absurd HA.out (by simp [breaks_Fill_2.l0])
    | succ k1 =>
      have H := HA.out
      clear HA
      simp only [breaks_Fill_2.l0] at H
      by_cases c7 : x12_1 < a1
      · rw [if_pos c7] at H
        have c7b0 : decide (x12_1 < a1) = true := decide_eq_true c7
        clear c7
        by_cases c8 : 0 ≤ x12_1
        · rw [if_pos c8] at H
          have c8b0 : decide (0 ≤ x12_1) = true := decide_eq_true c8
          clear c8
          by_cases c9 : x12_1 < (l2.length : Int)
          · rw [if_pos c9] at H
            have c9b0 : decide (x12_1 < (l2.length : Int)) = true := decide_eq_true c9
            clear c9
            replace H := Option.bind_eq_some_iff.mp H
            obtain ⟨t166, A100, H⟩ := H
            replace H : (if x12_1 < (l3.length : Int) then (if rdOf false l3 x12_1 = true then (breaks_Fill_2.j1 k1 a0 x9_1 x10_1 x11_1 x12_1 (wrap64 (x13_1 + t166)) a1 l2 l3 a4 l5) else (breaks_Fill_2.j1 k1 a0 x9_1 x10_1 (wrap64 (x11_1 + (wrap64 (x13_1 + t166)))) x12_1 0 a1 l2 l3 a4 l5)) else (none)) = some r := H
            have A10 := Aside0.mk A100
            clear A100
            by_cases c11 : x12_1 < (l3.length : Int)
            · rw [if_pos c11] at H
              have c11b0 : decide (x12_1 < (l3.length : Int)) = true := decide_eq_true c11
              clear c11
              have HC12 := Aside0.mk H
              clear H
              have hnb13 := NB50_51.out
              have hnc13 := NB51_50.out
              have hnb14 := NB50_52.out
              have hnc14 := NB52_50.out
              have hnb15 := NB50_53.out
              have hnc15 := NB53_50.out
              have hnb16 := NB50_54.out
              have hnc16 := NB54_50.out
              have hnb17 := NB50_55.out
              have hnc17 := NB55_50.out
              have hcz18_0 : wr.cell? ⟨gb50, 0, none⟩ = some (.int .i64 a1) := (blk_cell BK50.out 0).trans rfl
              have hfz18_0 := blk_frozen BK50.out 0
              try go_wp2
              have n0_ := Aside0.mk (blk_drew BK50.out)
              have n1_ := Aside0.mk (blk_drew BK51.out)
              have n2_ := Aside0.mk (blk_drew BK52.out)
              have n3_ := Aside0.mk (blk_drew BK53.out)
              have n4_ := Aside0.mk (blk_drew BK54.out)
              have n5_ := Aside0.mk (blk_drew BK55.out)
              have n6_ := Aside0.mk (below_drew1 HB.out)
              clear BK50
              clear BK51
              clear BK52
              clear BK53
              clear BK54
              clear BK55
              clear HB
              have BK50 := n0_
              have BK51 := n1_
              have BK52 := n2_
              have BK53 := n3_
              have BK54 := n4_
              have BK55 := n5_
              have HB := n6_
              clear n0_ n1_ n2_ n3_ n4_ n5_ n6_
              have p165 : 0 ≤ (x12_1 : Int) := of_decide_eq_true (by first | (with_reducible assumption) | assumption)
              have q165 : x12_1 < (l2.length : Int) := of_decide_eq_true (by first | (with_reducible assumption) | assumption)
              obtain ⟨ad165, e165, hx165_0⟩ := Kd.at_int HR2.out x12_1 p165 q165
              have hw165_0 := hx165_0
              cases e165
              replace hx165_0 := (HB.out.cell (World.block_lt_of_cell? w _ hx165_0)).trans hx165_0
              replace p165 := eq_true p165
              replace q165 := eq_true q165
              refine start_ (n := 9) (S := fun w' => w'.cell? ⟨gb51, 0, none⟩ = some (.func (.func 33) #[] #[]) ∧ w'.cell? ⟨gb52, 0, none⟩ = some (.slice (some ad165) l2.length c2) ∧ w'.cell? (ad165.add (x12_1).toNat) = some (.int .i64 (rd l2 x12_1))) (ds := []) #[false, false, false, false, false, false, false, false, false] (by kernel_rfl) rfl rfl ⟨(blk_cell BK51.out 0).trans rfl, (blk_cell BK52.out 0).trans rfl, ((HB.out.cell (World.block_lt_of_cell? w _ hw165_0)).trans hw165_0)⟩ (fun hHeld => ?_); refine with_tabW breaks_Fill_2.tab5 breaks_Fill_2.bits5 (fun HT_ HW_ => ?_)
              generalize wr.drew = w19 at BK50 BK51 BK52 BK53 BK54 BK55 HB hx165_0 hHeld ⊢
              refine pure_ (i := 0) (N := some 21) (v := ?_) (a' := ?_) #[true, false, false, false, false, false, false, false, false] rfl rfl (any_of HT_.out (by kernel_rfl)) (fun _ _ _ h => h) (Or.inl ⟨by rfl, ?_⟩) ?_ ?_
              rotate_left
              · intro w'
                go_simp
                with_reducible rfl
              rotate_left
              · simp only [Act.put, List.setIfInBounds_toArray, List.set_cons_zero, List.set_cons_succ, i64_w, i32_w]
                rfl
              refine pure_ (i := 3) (N := some 24) (v := ?_) (a' := ?_) #[true, false, false, true, false, false, false, false, false] rfl rfl (any_of HT_.out (by kernel_rfl)) (fun _ _ _ h => h) (Or.inl ⟨by rfl, ?_⟩) ?_ ?_
              rotate_left
              · intro w'
                go_simp
                with_reducible rfl
              rotate_left
              · simp only [Act.put, List.setIfInBounds_toArray, List.set_cons_zero, List.set_cons_succ, i64_w, i32_w]
                rfl
              refine take_ (i := 1) (N := some 22) (v := ?_) (a' := ?_) #[true, true, false, true, false, false, false, false, false] rfl rfl (take_ofW HT_.out HW_.out (by kernel_rfl)) (fun _ _ _ h => h) (Or.inl ⟨by rfl, ?_⟩) hHeld ?_ ?_
              rotate_left
              · rintro w' ⟨s0, s1, s2⟩
                go_simp
                with_reducible rfl
              rotate_left
              · simp only [Act.put, List.setIfInBounds_toArray, List.set_cons_zero, List.set_cons_succ, i64_w, i32_w]
                rfl
              refine take_ (i := 2) (N := some 23) (v := ?_) (a' := ?_) #[true, true, true, true, false, false, false, false, false] rfl rfl (take_ofW HT_.out HW_.out (by kernel_rfl)) (fun _ _ _ h => h) (Or.inl ⟨by rfl, ?_⟩) hHeld ?_ ?_
              rotate_left
              · rintro w' ⟨s0, s1, s2⟩
                go_simp
                with_reducible rfl
              rotate_left
              · simp only [Act.put, List.setIfInBounds_toArray, List.set_cons_zero, List.set_cons_succ, i64_w, i32_w]
                rfl
              refine pure_ (i := 4) (N := some 25) (v := ?_) (a' := ?_) #[true, true, true, true, true, false, false, false, false] rfl rfl (any_of HT_.out (by kernel_rfl)) (fun _ _ _ h => h) (Or.inl ⟨by rfl, ?_⟩) ?_ ?_
              rotate_left
              · intro w'
                go_simp
                with_reducible rfl
              rotate_left
              · simp only [Act.put, List.setIfInBounds_toArray, List.set_cons_zero, List.set_cons_succ, i64_w, i32_w]
                rfl
              refine take_ (i := 5) (N := some 26) (v := ?_) (a' := ?_) #[true, true, true, true, true, true, false, false, false] rfl rfl (take_ofW HT_.out HW_.out (by kernel_rfl)) (fun _ _ _ h => h) (Or.inl ⟨by rfl, ?_⟩) hHeld ?_ ?_
              rotate_left
              · rintro w' ⟨s0, s1, s2⟩
                go_simp
                with_reducible rfl
              rotate_left
              · simp only [Act.put, List.setIfInBounds_toArray, List.set_cons_zero, List.set_cons_succ, i64_w, i32_w]
                rfl
              refine one_ (i := 6) (N := some 27) #[true, true, true, true, true, true, true, false, false] rfl rfl (one_of HT_.out (by kernel_rfl)) (by decide) (fun K hK => ?_)
              refine goesv_ Try.func33 (by kernel_rfl) rfl #[.int .i64 (rd l2 x12_1)] (by rfl) rfl rfl (by rfl) (by (try simp only [List.map_toArray, List.map_cons, List.map_nil]); first | done | rfl | (simp only [List.length_drop, List.length_take]; rfl)) ?_
              with_reducible refine (breaks_Fill_1.calls (rd l2 x12_1) t166 _ A10.out).mono ?_
              rintro e w20 ⟨rfl, hb⟩
              refine ⟨_, rfl, ?_⟩
              have n0_ := Aside0.mk (blk_below (g := gb50) (o := .cells #[.int .i64 a1] 3 (0, 0)) (by (with_reducible repeat (first | refine blk_drewN ?_ _ | refine blk_drew ?_ | refine blk_alloc ?_ _)); exact BK50.out) hb)
              have n1_ := Aside0.mk (blk_below (g := gb51) (o := .cells #[.func (.func 33) #[] #[]] 30 (0, 0)) (by (with_reducible repeat (first | refine blk_drewN ?_ _ | refine blk_drew ?_ | refine blk_alloc ?_ _)); exact BK51.out) hb)
              have n2_ := Aside0.mk (blk_below (g := gb52) (o := .cells #[.slice (some ad165) l2.length c2] 22 (0, 0)) (by (with_reducible repeat (first | refine blk_drewN ?_ _ | refine blk_drew ?_ | refine blk_alloc ?_ _)); exact BK52.out) hb)
              have n3_ := Aside0.mk (blk_below (g := gb53) (o := .cells #[.slice A3 l3.length c3] 35 (0, 0)) (by (with_reducible repeat (first | refine blk_drewN ?_ _ | refine blk_drew ?_ | refine blk_alloc ?_ _)); exact BK53.out) hb)
              have n4_ := Aside0.mk (blk_below (g := gb54) (o := .cells #[.int .i64 a4] 3 (0, 0)) (by (with_reducible repeat (first | refine blk_drewN ?_ _ | refine blk_drew ?_ | refine blk_alloc ?_ _)); exact BK54.out) hb)
              have n5_ := Aside0.mk (blk_below (g := gb55) (o := .cells #[.slice A5 l5.length c5] 22 (0, 0)) (by (with_reducible repeat (first | refine blk_drewN ?_ _ | refine blk_drew ?_ | refine blk_alloc ?_ _)); exact BK55.out) hb)
              have n6_ := Aside0.mk (below_step (by repeat (first | (with_reducible first | exact HB.out | apply below_alloc | apply pw_below_drewN | apply below_drew1 | refine below_set ?_ GE50.out | refine below_set ?_ GE51.out | refine below_set ?_ GE52.out | refine below_set ?_ GE53.out | refine below_set ?_ GE54.out | refine below_set ?_ GE55.out) | exact HB.out)) hb)
              clear BK50
              clear BK51
              clear BK52
              clear BK53
              clear BK54
              clear BK55
              clear HB
              have BK50 := n0_
              have BK51 := n1_
              have BK52 := n2_
              have BK53 := n3_
              have BK54 := n4_
              have BK55 := n5_
              have HB := n6_
              clear n0_ n1_ n2_ n3_ n4_ n5_ n6_
              (try clear hb)
              (try clear hb2)
              (try clear hk)
              (try clear hi)
              refine hK.out _ _ ⟨(blk_cell BK51.out 0).trans rfl, (blk_cell BK52.out 0).trans rfl, ((HB.out.cell (World.block_lt_of_cell? w _ hw165_0)).trans hw165_0)⟩ (fun hHeld => ?_)
              clear hK K
              refine norm_ (a' := ?_) ?_ ?_
              rotate_left
              · show Act.put _ (some 27) _ = _
                simp only [Act.put, List.setIfInBounds_toArray, List.set_cons_zero, List.set_cons_succ, i64_w, i32_w]
                rfl
              refine pure_ (i := 7) (N := some 28) (v := ?_) (a' := ?_) #[true, true, true, true, true, true, true, true, false] rfl rfl (any_of HT_.out (by kernel_rfl)) (fun _ _ _ h => h) (Or.inl ⟨by rfl, ?_⟩) ?_ ?_
              rotate_left
              · intro w'
                go_simp
                with_reducible rfl
              rotate_left
              · simp only [Act.put, List.setIfInBounds_toArray, List.set_cons_zero, List.set_cons_succ, i64_w, i32_w]
                rfl
              refine pure_ (i := 8) (N := some 13) (v := ?_) (a' := ?_) #[true, true, true, true, true, true, true, true, true] rfl rfl (any_of HT_.out (by kernel_rfl)) (fun _ _ _ h => h) (Or.inl ⟨by rfl, ?_⟩) ?_ ?_
              rotate_left
              · intro w'
                go_simp
                with_reducible rfl
              rotate_left
              · simp only [Act.put, List.setIfInBounds_toArray, List.set_cons_zero, List.set_cons_succ, i64_w, i32_w]
                rfl
              refine done_ (done_of HT_.out (by kernel_rfl)) ?_
              have hnb21 := NB53_51.out
              have hnc21 := NB51_53.out
              have hnb22 := NB53_52.out
              have hnc22 := NB52_53.out
              have hnb23 := NB53_54.out
              have hnc23 := NB54_53.out
              have hnb24 := NB53_55.out
              have hnc24 := NB55_53.out
              have hcz25_0 : w20.cell? ⟨gb53, 0, none⟩ = some (.slice A3 l3.length c3) := (blk_cell BK53.out 0).trans rfl
              have hfz25_0 := blk_frozen BK53.out 0
              have p167 : 0 ≤ (x12_1 : Int) := of_decide_eq_true (by first | (with_reducible assumption) | assumption)
              have q167 : x12_1 < (l3.length : Int) := of_decide_eq_true (by first | (with_reducible assumption) | assumption)
              obtain ⟨ad167, e167, hx167_0⟩ := Kd.at_bool HR3.out x12_1 p167 q167
              cases e167
              replace hx167_0 := (HB.out.cell (World.block_lt_of_cell? w _ hx167_0)).trans hx167_0
              replace p167 := eq_true p167
              replace q167 := eq_true q167
              go_upto_if 33 with (fail)
              go_cut [11, 13] (fun v11 v13 wc => ∃ (kq : Nat) (x11_11 : Int) (x13_11 : Int), v11 = .int .i64 x11_11 ∧ v13 = .int .i64 x13_11 ∧ Aside0 (breaks_Fill_2.j1 kq a0 x9_1 x10_1 x11_11 x12_1 x13_11 a1 l2 l3 a4 l5 = some r) ∧ Aside0 (kq ≤ k1) ∧ Aside0 (wc.heap[gb50]? = some (.cells #[.int .i64 a1] 3 (0, 0))) ∧ Aside0 (wc.heap[gb51]? = some (.cells #[(.func (.func 33) #[] #[])] 30 (0, 0))) ∧ Aside0 (wc.heap[gb52]? = some (.cells #[(.slice (some ad165) l2.length c2)] 22 (0, 0))) ∧ Aside0 (wc.heap[gb53]? = some (.cells #[(.slice (some ad167) l3.length c3)] 35 (0, 0))) ∧ Aside0 (wc.heap[gb54]? = some (.cells #[.int .i64 a4] 3 (0, 0))) ∧ Aside0 (wc.heap[gb55]? = some (.cells #[(.slice A5 l5.length c5)] 22 (0, 0))) ∧ Aside0 (Below w.heap.size w wc))
              case first =>
                have H := HC12.out
                clear HC12
                obtain ⟨bq26, hbq26⟩ : ∃ b_ : Bool, b_ = (rdOf false l3 x12_1) := ⟨_, rfl⟩
                replace H : (if bq26 = true then (breaks_Fill_2.j1 k1 a0 x9_1 x10_1 x11_1 x12_1 (wrap64 (x13_1 + t166)) a1 l2 l3 a4 l5) else (breaks_Fill_2.j1 k1 a0 x9_1 x10_1 (wrap64 (x11_1 + (wrap64 (x13_1 + t166)))) x12_1 0 a1 l2 l3 a4 l5)) = some r := by rw [← hbq26] at H; exact H
                have Nbq26 := Aside0.mk hbq26
                clear hbq26
                (try rw [← Nbq26.out])
                by_cases c27 : bq26 = true
                · subst c27
                  have H1 : (breaks_Fill_2.j1 k1 a0 x9_1 x10_1 x11_1 x12_1 (wrap64 (x13_1 + t166)) a1 l2 l3 a4 l5) = some r := by rw [if_pos rfl] at H; exact H
                  clear H
                  have H := H1
                  clear H1
                  have H' := Aside0.mk H
                  clear H
                  try go_wp2
                  try (go_step3; try go_wp2)
                  try (go_step3; try go_wp2)
                  repeat (go_quiet (fail); try go_wp2)
                  go_meet
                  case rel => exact ⟨_, (x11_1), (wrap64 (x13_1 + t166)), (by first | rfl | (simp; done) | (simp [*]; done)), (by first | rfl | (simp; done) | (simp [*]; done)), H', ⟨by have := HK1.out; first | omega | exact Nat.le_refl _⟩, ⟨by (with_reducible repeat (first | refine blk_drewN ?_ _ | refine blk_drew ?_ | refine blk_alloc ?_ _)); exact BK50.out⟩, ⟨by (with_reducible repeat (first | refine blk_drewN ?_ _ | refine blk_drew ?_ | refine blk_alloc ?_ _)); exact BK51.out⟩, ⟨by (with_reducible repeat (first | refine blk_drewN ?_ _ | refine blk_drew ?_ | refine blk_alloc ?_ _)); exact BK52.out⟩, ⟨by (with_reducible repeat (first | refine blk_drewN ?_ _ | refine blk_drew ?_ | refine blk_alloc ?_ _)); exact BK53.out⟩, ⟨by (with_reducible repeat (first | refine blk_drewN ?_ _ | refine blk_drew ?_ | refine blk_alloc ?_ _)); exact BK54.out⟩, ⟨by (with_reducible repeat (first | refine blk_drewN ?_ _ | refine blk_drew ?_ | refine blk_alloc ?_ _)); exact BK55.out⟩, ⟨by repeat (first | (with_reducible first | exact HB.out | apply below_alloc | apply pw_below_drewN | apply below_drew1 | refine below_set ?_ GE50.out | refine below_set ?_ GE51.out | refine below_set ?_ GE52.out | refine below_set ?_ GE53.out | refine below_set ?_ GE54.out | refine below_set ?_ GE55.out) | exact HB.out)⟩⟩
                · replace c27 := Bool.eq_false_iff.mpr c27
                  subst c27
                  have H1 : (breaks_Fill_2.j1 k1 a0 x9_1 x10_1 (wrap64 (x11_1 + (wrap64 (x13_1 + t166)))) x12_1 0 a1 l2 l3 a4 l5) = some r := by rw [if_neg (show ¬ (false = true) by decide)] at H; exact H
                  clear H
                  have H := H1
                  clear H1
                  have H' := Aside0.mk H
                  clear H
                  try go_wp2
                  try (go_step3; try go_wp2)
                  try (go_step3; try go_wp2)
                  repeat (go_quiet (fail); try go_wp2)
                  go_meet
                  case rel => exact ⟨_, (wrap64 (x11_1 + (wrap64 (x13_1 + t166)))), (0), (by first | rfl | (simp; done) | (simp [*]; done)), (by first | rfl | (simp; done) | (simp [*]; done)), H', ⟨by have := HK1.out; first | omega | exact Nat.le_refl _⟩, ⟨by (with_reducible repeat (first | refine blk_drewN ?_ _ | refine blk_drew ?_ | refine blk_alloc ?_ _)); exact BK50.out⟩, ⟨by (with_reducible repeat (first | refine blk_drewN ?_ _ | refine blk_drew ?_ | refine blk_alloc ?_ _)); exact BK51.out⟩, ⟨by (with_reducible repeat (first | refine blk_drewN ?_ _ | refine blk_drew ?_ | refine blk_alloc ?_ _)); exact BK52.out⟩, ⟨by (with_reducible repeat (first | refine blk_drewN ?_ _ | refine blk_drew ?_ | refine blk_alloc ?_ _)); exact BK53.out⟩, ⟨by (with_reducible repeat (first | refine blk_drewN ?_ _ | refine blk_drew ?_ | refine blk_alloc ?_ _)); exact BK54.out⟩, ⟨by (with_reducible repeat (first | refine blk_drewN ?_ _ | refine blk_drew ?_ | refine blk_alloc ?_ _)); exact BK55.out⟩, ⟨by repeat (first | (with_reducible first | exact HB.out | apply below_alloc | apply pw_below_drewN | apply below_drew1 | refine below_set ?_ GE50.out | refine below_set ?_ GE51.out | refine below_set ?_ GE52.out | refine below_set ?_ GE53.out | refine below_set ?_ GE54.out | refine below_set ?_ GE55.out) | exact HB.out)⟩⟩
              case rest =>
                clear HC12
                try clear c1
                try clear p1
                try clear q1
                try clear hx1
                try clear c2
                try clear p2
                try clear q2
                try clear c3
                try clear p3
                try clear c5
                try clear p6
                try clear c7
                try clear c7b0
                try clear c8
                try clear c8b0
                try clear c9
                try clear c9b0
                try clear c11
                try clear c11b0
                try clear c13
                try clear c14
                try clear c15
                try clear c16
                try clear p16
                try clear q16
                try clear hx16
                try clear c17
                try clear c21
                try clear c22
                try clear c23
                try clear c24
                try clear q26
                try clear c27
                try clear hcz18_0
                try clear hcz25_0
                try clear hfz18_0
                try clear hfz25_0
                try clear hx165_0
                try clear hx167_0
                try clear p165
                try clear p167
                try clear p2
                try clear p3
                try clear q165
                try clear q167
                obtain ⟨kq, x11_11, x13_11, rfl, rfl, HA, HJ11, BK50, BK51, BK52, BK53, BK54, BK55, HB⟩ := hcut
                cases kq with
                | zero => exact absurd HA.out (by simp [breaks_Fill_2.j1])
                | succ kj11 =>
                  have H := HA.out
                  clear HA
                  simp only [breaks_Fill_2.j1] at H
                  have HC28 := Aside0.mk H
                  clear H
                  go_upto_region 8 with (fail)
                  go_cut [46] (fun v46 wc => ∃ (kq : Nat) (x46_27 : Bool), v46 = .bool x46_27 ∧ Aside0 (breaks_Fill_2.j2 kq a0 x9_1 x10_1 x11_11 x12_1 x13_11 x46_27 a1 l2 l3 a4 l5 = some r) ∧ Aside0 (kq ≤ kj11) ∧ Aside0 (wc.heap[gb50]? = some (.cells #[.int .i64 a1] 3 (0, 0))) ∧ Aside0 (wc.heap[gb51]? = some (.cells #[(.func (.func 33) #[] #[])] 30 (0, 0))) ∧ Aside0 (wc.heap[gb52]? = some (.cells #[(.slice (some ad165) l2.length c2)] 22 (0, 0))) ∧ Aside0 (wc.heap[gb53]? = some (.cells #[(.slice (some ad167) l3.length c3)] 35 (0, 0))) ∧ Aside0 (wc.heap[gb54]? = some (.cells #[.int .i64 a4] 3 (0, 0))) ∧ Aside0 (wc.heap[gb55]? = some (.cells #[(.slice A5 l5.length c5)] 22 (0, 0))) ∧ Aside0 (Below w.heap.size w wc))
                  case first =>
                    have H := HC28.out
                    clear HC28
                    replace H := Option.bind_eq_some_iff.mp H
                    obtain ⟨t168, A290, H⟩ := H
                    replace H : (if x11_11 > t168 then (breaks_Fill_2.j2 kj11 a0 x9_1 x10_1 x11_11 x12_1 x13_11 (decide (x12_1 > a0)) a1 l2 l3 a4 l5) else (breaks_Fill_2.j2 kj11 a0 x9_1 x10_1 x11_11 x12_1 x13_11 false a1 l2 l3 a4 l5)) = some r := H
                    have A29 := Aside0.mk A290
                    clear A290
                    by_cases c30 : x11_11 > t168
                    · rw [if_pos c30] at H
                      have c30b0 : decide (t168 < x11_11) = true := decide_eq_true c30
                      clear c30
                      (first | rw [c30b0] | (simp only [i64_w, i32_w]; rw [c30b0]) | skip)
                      have H' := Aside0.mk H
                      clear H
                      have hnb31 := NB51_50.out
                      have hnc31 := NB50_51.out
                      have hnb32 := NB51_52.out
                      have hnc32 := NB52_51.out
                      have hnb33 := NB51_53.out
                      have hnc33 := NB53_51.out
                      have hnb34 := NB51_54.out
                      have hnc34 := NB54_51.out
                      have hnb35 := NB51_55.out
                      have hnc35 := NB55_51.out
                      have hcz36_0 : wc.cell? ⟨gb51, 0, none⟩ = some (.func (.func 33) #[] #[]) := (blk_cell BK51.out 0).trans rfl
                      have hfz36_0 := blk_frozen BK51.out 0
                      have hnb37 := NB54_50.out
                      have hnc37 := NB50_54.out
                      have hnb38 := NB54_52.out
                      have hnc38 := NB52_54.out
                      have hnb39 := NB54_53.out
                      have hnc39 := NB53_54.out
                      have hnb40 := NB54_55.out
                      have hnc40 := NB55_54.out
                      have hcz41_0 : wc.cell? ⟨gb54, 0, none⟩ = some (.int .i64 a4) := (blk_cell BK54.out 0).trans rfl
                      have hfz41_0 := blk_frozen BK54.out 0
                      go_wp2_with (first | (go_at_call 33; (with_reducible refine (breaks_Fill_1.calls a4 t168 _ A29.out).mono ?_); rintro e w42 ⟨rfl, hb⟩; have n0_ := Aside0.mk (blk_below (g := gb50) (o := .cells #[.int .i64 a1] 3 (0, 0)) (by (with_reducible repeat (first | refine blk_drewN ?_ _ | refine blk_drew ?_ | refine blk_alloc ?_ _)); exact BK50.out) hb); have n1_ := Aside0.mk (blk_below (g := gb51) (o := .cells #[.func (.func 33) #[] #[]] 30 (0, 0)) (by (with_reducible repeat (first | refine blk_drewN ?_ _ | refine blk_drew ?_ | refine blk_alloc ?_ _)); exact BK51.out) hb); have n2_ := Aside0.mk (blk_below (g := gb52) (o := .cells #[.slice (some ad165) l2.length c2] 22 (0, 0)) (by (with_reducible repeat (first | refine blk_drewN ?_ _ | refine blk_drew ?_ | refine blk_alloc ?_ _)); exact BK52.out) hb); have n3_ := Aside0.mk (blk_below (g := gb53) (o := .cells #[.slice (some ad167) l3.length c3] 35 (0, 0)) (by (with_reducible repeat (first | refine blk_drewN ?_ _ | refine blk_drew ?_ | refine blk_alloc ?_ _)); exact BK53.out) hb); have n4_ := Aside0.mk (blk_below (g := gb54) (o := .cells #[.int .i64 a4] 3 (0, 0)) (by (with_reducible repeat (first | refine blk_drewN ?_ _ | refine blk_drew ?_ | refine blk_alloc ?_ _)); exact BK54.out) hb); have n5_ := Aside0.mk (blk_below (g := gb55) (o := .cells #[.slice A5 l5.length c5] 22 (0, 0)) (by (with_reducible repeat (first | refine blk_drewN ?_ _ | refine blk_drew ?_ | refine blk_alloc ?_ _)); exact BK55.out) hb); have n6_ := Aside0.mk (below_step (by repeat (first | (with_reducible first | exact HB.out | apply below_alloc | apply pw_below_drewN | apply below_drew1 | refine below_set ?_ GE50.out | refine below_set ?_ GE51.out | refine below_set ?_ GE52.out | refine below_set ?_ GE53.out | refine below_set ?_ GE54.out | refine below_set ?_ GE55.out) | exact HB.out)) hb); clear BK50; clear BK51; clear BK52; clear BK53; clear BK54; clear BK55; clear HB; have BK50 := n0_; have BK51 := n1_; have BK52 := n2_; have BK53 := n3_; have BK54 := n4_; have BK55 := n5_; have HB := n6_; clear n0_ n1_ n2_ n3_ n4_ n5_ n6_; (try clear hb); (try clear hb2); (try clear hk); (try clear hi)))
                      go_meet
                      case rel => exact ⟨_, (decide (x12_1 > a0)), (by first | rfl | (simp; done) | (simp [*]; done)), H', ⟨by have := HK1.out; have := HJ11.out; first | omega | exact Nat.le_refl _⟩, ⟨by (with_reducible repeat (first | refine blk_drewN ?_ _ | refine blk_drew ?_ | refine blk_alloc ?_ _)); exact BK50.out⟩, ⟨by (with_reducible repeat (first | refine blk_drewN ?_ _ | refine blk_drew ?_ | refine blk_alloc ?_ _)); exact BK51.out⟩, ⟨by (with_reducible repeat (first | refine blk_drewN ?_ _ | refine blk_drew ?_ | refine blk_alloc ?_ _)); exact BK52.out⟩, ⟨by (with_reducible repeat (first | refine blk_drewN ?_ _ | refine blk_drew ?_ | refine blk_alloc ?_ _)); exact BK53.out⟩, ⟨by (with_reducible repeat (first | refine blk_drewN ?_ _ | refine blk_drew ?_ | refine blk_alloc ?_ _)); exact BK54.out⟩, ⟨by (with_reducible repeat (first | refine blk_drewN ?_ _ | refine blk_drew ?_ | refine blk_alloc ?_ _)); exact BK55.out⟩, ⟨by repeat (first | (with_reducible first | exact HB.out | apply below_alloc | apply pw_below_drewN | apply below_drew1 | refine below_set ?_ GE50.out | refine below_set ?_ GE51.out | refine below_set ?_ GE52.out | refine below_set ?_ GE53.out | refine below_set ?_ GE54.out | refine below_set ?_ GE55.out) | exact HB.out)⟩⟩
                    · rw [if_neg c30] at H
                      have c30b0 : decide (t168 < x11_11) = false := decide_eq_false c30
                      clear c30
                      (first | rw [c30b0] | (simp only [i64_w, i32_w]; rw [c30b0]) | skip)
                      have H' := Aside0.mk H
                      clear H
                      have hnb43 := NB51_50.out
                      have hnc43 := NB50_51.out
                      have hnb44 := NB51_52.out
                      have hnc44 := NB52_51.out
                      have hnb45 := NB51_53.out
                      have hnc45 := NB53_51.out
                      have hnb46 := NB51_54.out
                      have hnc46 := NB54_51.out
                      have hnb47 := NB51_55.out
                      have hnc47 := NB55_51.out
                      have hcz48_0 : wc.cell? ⟨gb51, 0, none⟩ = some (.func (.func 33) #[] #[]) := (blk_cell BK51.out 0).trans rfl
                      have hfz48_0 := blk_frozen BK51.out 0
                      have hnb49 := NB54_50.out
                      have hnc49 := NB50_54.out
                      have hnb50 := NB54_52.out
                      have hnc50 := NB52_54.out
                      have hnb51 := NB54_53.out
                      have hnc51 := NB53_54.out
                      have hnb52 := NB54_55.out
                      have hnc52 := NB55_54.out
                      have hcz53_0 : wc.cell? ⟨gb54, 0, none⟩ = some (.int .i64 a4) := (blk_cell BK54.out 0).trans rfl
                      have hfz53_0 := blk_frozen BK54.out 0
                      go_wp2_with (first | (go_at_call 33; (with_reducible refine (breaks_Fill_1.calls a4 t168 _ A29.out).mono ?_); rintro e w54 ⟨rfl, hb⟩; have n0_ := Aside0.mk (blk_below (g := gb50) (o := .cells #[.int .i64 a1] 3 (0, 0)) (by (with_reducible repeat (first | refine blk_drewN ?_ _ | refine blk_drew ?_ | refine blk_alloc ?_ _)); exact BK50.out) hb); have n1_ := Aside0.mk (blk_below (g := gb51) (o := .cells #[.func (.func 33) #[] #[]] 30 (0, 0)) (by (with_reducible repeat (first | refine blk_drewN ?_ _ | refine blk_drew ?_ | refine blk_alloc ?_ _)); exact BK51.out) hb); have n2_ := Aside0.mk (blk_below (g := gb52) (o := .cells #[.slice (some ad165) l2.length c2] 22 (0, 0)) (by (with_reducible repeat (first | refine blk_drewN ?_ _ | refine blk_drew ?_ | refine blk_alloc ?_ _)); exact BK52.out) hb); have n3_ := Aside0.mk (blk_below (g := gb53) (o := .cells #[.slice (some ad167) l3.length c3] 35 (0, 0)) (by (with_reducible repeat (first | refine blk_drewN ?_ _ | refine blk_drew ?_ | refine blk_alloc ?_ _)); exact BK53.out) hb); have n4_ := Aside0.mk (blk_below (g := gb54) (o := .cells #[.int .i64 a4] 3 (0, 0)) (by (with_reducible repeat (first | refine blk_drewN ?_ _ | refine blk_drew ?_ | refine blk_alloc ?_ _)); exact BK54.out) hb); have n5_ := Aside0.mk (blk_below (g := gb55) (o := .cells #[.slice A5 l5.length c5] 22 (0, 0)) (by (with_reducible repeat (first | refine blk_drewN ?_ _ | refine blk_drew ?_ | refine blk_alloc ?_ _)); exact BK55.out) hb); have n6_ := Aside0.mk (below_step (by repeat (first | (with_reducible first | exact HB.out | apply below_alloc | apply pw_below_drewN | apply below_drew1 | refine below_set ?_ GE50.out | refine below_set ?_ GE51.out | refine below_set ?_ GE52.out | refine below_set ?_ GE53.out | refine below_set ?_ GE54.out | refine below_set ?_ GE55.out) | exact HB.out)) hb); clear BK50; clear BK51; clear BK52; clear BK53; clear BK54; clear BK55; clear HB; have BK50 := n0_; have BK51 := n1_; have BK52 := n2_; have BK53 := n3_; have BK54 := n4_; have BK55 := n5_; have HB := n6_; clear n0_ n1_ n2_ n3_ n4_ n5_ n6_; (try clear hb); (try clear hb2); (try clear hk); (try clear hi)))
                      go_meet
                      case rel => exact ⟨_, (false), (by first | rfl | (simp; done) | (simp [*]; done)), H', ⟨by have := HK1.out; have := HJ11.out; first | omega | exact Nat.le_refl _⟩, ⟨by (with_reducible repeat (first | refine blk_drewN ?_ _ | refine blk_drew ?_ | refine blk_alloc ?_ _)); exact BK50.out⟩, ⟨by (with_reducible repeat (first | refine blk_drewN ?_ _ | refine blk_drew ?_ | refine blk_alloc ?_ _)); exact BK51.out⟩, ⟨by (with_reducible repeat (first | refine blk_drewN ?_ _ | refine blk_drew ?_ | refine blk_alloc ?_ _)); exact BK52.out⟩, ⟨by (with_reducible repeat (first | refine blk_drewN ?_ _ | refine blk_drew ?_ | refine blk_alloc ?_ _)); exact BK53.out⟩, ⟨by (with_reducible repeat (first | refine blk_drewN ?_ _ | refine blk_drew ?_ | refine blk_alloc ?_ _)); exact BK54.out⟩, ⟨by (with_reducible repeat (first | refine blk_drewN ?_ _ | refine blk_drew ?_ | refine blk_alloc ?_ _)); exact BK55.out⟩, ⟨by repeat (first | (with_reducible first | exact HB.out | apply below_alloc | apply pw_below_drewN | apply below_drew1 | refine below_set ?_ GE50.out | refine below_set ?_ GE51.out | refine below_set ?_ GE52.out | refine below_set ?_ GE53.out | refine below_set ?_ GE54.out | refine below_set ?_ GE55.out) | exact HB.out)⟩⟩
                  case rest =>
                    clear HC28
                    try clear c1
                    try clear p1
                    try clear q1
                    try clear hx1
                    try clear c2
                    try clear p2
                    try clear q2
                    try clear c3
                    try clear p3
                    try clear c4
                    try clear c5
                    try clear p6
                    try clear c7
                    try clear c7b0
                    try clear c8
                    try clear c8b0
                    try clear c9
                    try clear c9b0
                    try clear c11
                    try clear c11b0
                    try clear c13
                    try clear c14
                    try clear c15
                    try clear c16
                    try clear p16
                    try clear q16
                    try clear hx16
                    try clear c17
                    try clear c21
                    try clear c22
                    try clear c23
                    try clear c24
                    try clear q26
                    try clear c27
                    try clear c30
                    try clear c30b0
                    try clear c31
                    try clear c32
                    try clear c33
                    try clear c34
                    try clear c35
                    try clear c37
                    try clear c38
                    try clear c39
                    try clear c40
                    try clear c43
                    try clear c44
                    try clear c45
                    try clear c46
                    try clear c47
                    try clear c49
                    try clear c50
                    try clear c51
                    try clear c52
                    try clear hcz18_0
                    try clear hcz25_0
                    try clear hcz36_0
                    try clear hcz41_0
                    try clear hcz48_0
                    try clear hcz53_0
                    try clear hfz18_0
                    try clear hfz25_0
                    try clear hfz36_0
                    try clear hfz41_0
                    try clear hfz48_0
                    try clear hfz53_0
                    try clear hx165_0
                    try clear hx167_0
                    try clear p1
                    try clear p16
                    try clear p165
                    try clear p167
                    try clear p2
                    try clear p3
                    try clear p6
                    try clear q1
                    try clear q16
                    try clear q165
                    try clear q167
                    try clear q2
                    try clear q26
                    obtain ⟨kq, x46_27, rfl, HA, HJ27, BK50, BK51, BK52, BK53, BK54, BK55, HB⟩ := hcut
                    cases kq with
                    | zero => exact absurd HA.out (by simp [breaks_Fill_2.j2])
                    | succ kj27 =>
                      have H := HA.out
                      clear HA
                      simp only [breaks_Fill_2.j2] at H
                      by_cases c55 : x46_27 = true
                      · subst c55
                        have H1 : (if x9_1 < (wrap64 (a1 - 1)) then (if x10_1 ≥ 0 then (some x10_1) else (some x9_1)) else (some x9_1)) = some r := by rw [if_pos rfl] at H; exact H
                        clear H
                        have H := H1
                        clear H1
                        by_cases c56 : x9_1 < (wrap64 (a1 - 1))
                        · rw [if_pos c56] at H
                          have c56b0 : decide (x9_1 < (wrap64 (a1 - 1))) = true := decide_eq_true c56
                          clear c56
                          by_cases c57 : x10_1 ≥ 0
                          · rw [if_pos c57] at H
                            have c57b0 : decide (0 ≤ x10_1) = true := decide_eq_true c57
                            clear c57
                            obtain rfl := Option.some.inj H
                            have hnb58 := NB50_51.out
                            have hnc58 := NB51_50.out
                            have hnb59 := NB50_52.out
                            have hnc59 := NB52_50.out
                            have hnb60 := NB50_53.out
                            have hnc60 := NB53_50.out
                            have hnb61 := NB50_54.out
                            have hnc61 := NB54_50.out
                            have hnb62 := NB50_55.out
                            have hnc62 := NB55_50.out
                            have hcz63_0 : wc.cell? ⟨gb50, 0, none⟩ = some (.int .i64 a1) := (blk_cell BK50.out 0).trans rfl
                            have hfz63_0 := blk_frozen BK50.out 0
                            try go_wp2
                            try (go_step3; try go_wp2)
                            try (go_step3; try go_wp2)
                            repeat (go_quiet (fail); try go_wp2)
                            try simp only [Exit.noGoto_ret]
                            go_ret
                            exact ⟨by first | rfl | (simp [errW_none, errW_some] <;> rfl) | (simp [*, errW_none, errW_some] <;> rfl), by repeat (first | (with_reducible first | exact HB.out | apply below_alloc | apply pw_below_drewN | apply below_drew1 | refine below_set ?_ GE50.out | refine below_set ?_ GE51.out | refine below_set ?_ GE52.out | refine below_set ?_ GE53.out | refine below_set ?_ GE54.out | refine below_set ?_ GE55.out) | exact HB.out)⟩
                          · rw [if_neg c57] at H
                            have c57b0 : decide (0 ≤ x10_1) = false := decide_eq_false c57
                            clear c57
                            obtain rfl := Option.some.inj H
                            have hnb64 := NB50_51.out
                            have hnc64 := NB51_50.out
                            have hnb65 := NB50_52.out
                            have hnc65 := NB52_50.out
                            have hnb66 := NB50_53.out
                            have hnc66 := NB53_50.out
                            have hnb67 := NB50_54.out
                            have hnc67 := NB54_50.out
                            have hnb68 := NB50_55.out
                            have hnc68 := NB55_50.out
                            have hcz69_0 : wc.cell? ⟨gb50, 0, none⟩ = some (.int .i64 a1) := (blk_cell BK50.out 0).trans rfl
                            have hfz69_0 := blk_frozen BK50.out 0
                            try go_wp2
                            try (go_step3; try go_wp2)
                            try (go_step3; try go_wp2)
                            repeat (go_quiet (fail); try go_wp2)
                            try simp only [Exit.noGoto_ret]
                            go_ret
                            exact ⟨by first | rfl | (simp [errW_none, errW_some] <;> rfl) | (simp [*, errW_none, errW_some] <;> rfl), by repeat (first | (with_reducible first | exact HB.out | apply below_alloc | apply pw_below_drewN | apply below_drew1 | refine below_set ?_ GE50.out | refine below_set ?_ GE51.out | refine below_set ?_ GE52.out | refine below_set ?_ GE53.out | refine below_set ?_ GE54.out | refine below_set ?_ GE55.out) | exact HB.out)⟩
                        · rw [if_neg c56] at H
                          have c56b0 : decide (x9_1 < (wrap64 (a1 - 1))) = false := decide_eq_false c56
                          clear c56
                          obtain rfl := Option.some.inj H
                          have hnb70 := NB50_51.out
                          have hnc70 := NB51_50.out
                          have hnb71 := NB50_52.out
                          have hnc71 := NB52_50.out
                          have hnb72 := NB50_53.out
                          have hnc72 := NB53_50.out
                          have hnb73 := NB50_54.out
                          have hnc73 := NB54_50.out
                          have hnb74 := NB50_55.out
                          have hnc74 := NB55_50.out
                          have hcz75_0 : wc.cell? ⟨gb50, 0, none⟩ = some (.int .i64 a1) := (blk_cell BK50.out 0).trans rfl
                          have hfz75_0 := blk_frozen BK50.out 0
                          try go_wp2
                          try (go_step3; try go_wp2)
                          try (go_step3; try go_wp2)
                          repeat (go_quiet (fail); try go_wp2)
                          try simp only [Exit.noGoto_ret]
                          go_ret
                          exact ⟨by first | rfl | (simp [errW_none, errW_some] <;> rfl) | (simp [*, errW_none, errW_some] <;> rfl), by repeat (first | (with_reducible first | exact HB.out | apply below_alloc | apply pw_below_drewN | apply below_drew1 | refine below_set ?_ GE50.out | refine below_set ?_ GE51.out | refine below_set ?_ GE52.out | refine below_set ?_ GE53.out | refine below_set ?_ GE54.out | refine below_set ?_ GE55.out) | exact HB.out)⟩
                      · replace c55 := Bool.eq_false_iff.mpr c55
                        subst c55
                        have H1 : ((breaks_Fill_1.f a4).bind fun t169 => (if x11_11 > t169 then (if x12_1 < (wrap64 (a1 - 1)) then (if x10_1 ≥ 0 then (some x10_1) else (some x12_1)) else (some x12_1)) else (if 0 ≤ x12_1 then (if x12_1 < (l5.length : Int) then (if (rd l5 x12_1) = 2 then (some x12_1) else (if (rd l5 x12_1) = 1 then (breaks_Fill_2.l0 kj27 a0 x12_1 x12_1 x11_11 (wrap64 (x12_1 + 1)) x13_11 a1 l2 l3 a4 l5) else (breaks_Fill_2.l0 kj27 a0 x12_1 x10_1 x11_11 (wrap64 (x12_1 + 1)) x13_11 a1 l2 l3 a4 l5))) else (none)) else (none)))) = some r := by rw [if_neg (show ¬ (false = true) by decide)] at H; exact H
                        clear H
                        have H := H1
                        clear H1
                        replace H := Option.bind_eq_some_iff.mp H
                        obtain ⟨t169, A760, H⟩ := H
                        replace H : (if x11_11 > t169 then (if x12_1 < (wrap64 (a1 - 1)) then (if x10_1 ≥ 0 then (some x10_1) else (some x12_1)) else (some x12_1)) else (if 0 ≤ x12_1 then (if x12_1 < (l5.length : Int) then (if (rd l5 x12_1) = 2 then (some x12_1) else (if (rd l5 x12_1) = 1 then (breaks_Fill_2.l0 kj27 a0 x12_1 x12_1 x11_11 (wrap64 (x12_1 + 1)) x13_11 a1 l2 l3 a4 l5) else (breaks_Fill_2.l0 kj27 a0 x12_1 x10_1 x11_11 (wrap64 (x12_1 + 1)) x13_11 a1 l2 l3 a4 l5))) else (none)) else (none))) = some r := H
                        have A76 := Aside0.mk A760
                        clear A760
                        by_cases c77 : x11_11 > t169
                        · rw [if_pos c77] at H
                          have c77b0 : decide (t169 < x11_11) = true := decide_eq_true c77
                          clear c77
                          by_cases c78 : x12_1 < (wrap64 (a1 - 1))
                          · rw [if_pos c78] at H
                            have c78b0 : decide (x12_1 < (wrap64 (a1 - 1))) = true := decide_eq_true c78
                            clear c78
                            by_cases c79 : x10_1 ≥ 0
                            · rw [if_pos c79] at H
                              have c79b0 : decide (0 ≤ x10_1) = true := decide_eq_true c79
                              clear c79
                              obtain rfl := Option.some.inj H
                              have hnb80 := NB51_50.out
                              have hnc80 := NB50_51.out
                              have hnb81 := NB51_52.out
                              have hnc81 := NB52_51.out
                              have hnb82 := NB51_53.out
                              have hnc82 := NB53_51.out
                              have hnb83 := NB51_54.out
                              have hnc83 := NB54_51.out
                              have hnb84 := NB51_55.out
                              have hnc84 := NB55_51.out
                              have hcz85_0 : wc.cell? ⟨gb51, 0, none⟩ = some (.func (.func 33) #[] #[]) := (blk_cell BK51.out 0).trans rfl
                              have hfz85_0 := blk_frozen BK51.out 0
                              have hnb86 := NB54_50.out
                              have hnc86 := NB50_54.out
                              have hnb87 := NB54_52.out
                              have hnc87 := NB52_54.out
                              have hnb88 := NB54_53.out
                              have hnc88 := NB53_54.out
                              have hnb89 := NB54_55.out
                              have hnc89 := NB55_54.out
                              have hcz90_0 : wc.cell? ⟨gb54, 0, none⟩ = some (.int .i64 a4) := (blk_cell BK54.out 0).trans rfl
                              have hfz90_0 := blk_frozen BK54.out 0
                              go_wp2_with (first | (go_at_call 33; (with_reducible refine (breaks_Fill_1.calls a4 t169 _ A76.out).mono ?_); rintro e w91 ⟨rfl, hb⟩; have n0_ := Aside0.mk (blk_below (g := gb50) (o := .cells #[.int .i64 a1] 3 (0, 0)) (by (with_reducible repeat (first | refine blk_drewN ?_ _ | refine blk_drew ?_ | refine blk_alloc ?_ _)); exact BK50.out) hb); have n1_ := Aside0.mk (blk_below (g := gb51) (o := .cells #[.func (.func 33) #[] #[]] 30 (0, 0)) (by (with_reducible repeat (first | refine blk_drewN ?_ _ | refine blk_drew ?_ | refine blk_alloc ?_ _)); exact BK51.out) hb); have n2_ := Aside0.mk (blk_below (g := gb52) (o := .cells #[.slice (some ad165) l2.length c2] 22 (0, 0)) (by (with_reducible repeat (first | refine blk_drewN ?_ _ | refine blk_drew ?_ | refine blk_alloc ?_ _)); exact BK52.out) hb); have n3_ := Aside0.mk (blk_below (g := gb53) (o := .cells #[.slice (some ad167) l3.length c3] 35 (0, 0)) (by (with_reducible repeat (first | refine blk_drewN ?_ _ | refine blk_drew ?_ | refine blk_alloc ?_ _)); exact BK53.out) hb); have n4_ := Aside0.mk (blk_below (g := gb54) (o := .cells #[.int .i64 a4] 3 (0, 0)) (by (with_reducible repeat (first | refine blk_drewN ?_ _ | refine blk_drew ?_ | refine blk_alloc ?_ _)); exact BK54.out) hb); have n5_ := Aside0.mk (blk_below (g := gb55) (o := .cells #[.slice A5 l5.length c5] 22 (0, 0)) (by (with_reducible repeat (first | refine blk_drewN ?_ _ | refine blk_drew ?_ | refine blk_alloc ?_ _)); exact BK55.out) hb); have n6_ := Aside0.mk (below_step (by repeat (first | (with_reducible first | exact HB.out | apply below_alloc | apply pw_below_drewN | apply below_drew1 | refine below_set ?_ GE50.out | refine below_set ?_ GE51.out | refine below_set ?_ GE52.out | refine below_set ?_ GE53.out | refine below_set ?_ GE54.out | refine below_set ?_ GE55.out) | exact HB.out)) hb); clear BK50; clear BK51; clear BK52; clear BK53; clear BK54; clear BK55; clear HB; have BK50 := n0_; have BK51 := n1_; have BK52 := n2_; have BK53 := n3_; have BK54 := n4_; have BK55 := n5_; have HB := n6_; clear n0_ n1_ n2_ n3_ n4_ n5_ n6_; (try clear hb); (try clear hb2); (try clear hk); (try clear hi); have hnb92 := NB50_52.out; have hnc92 := NB52_50.out; have hnb93 := NB50_53.out; have hnc93 := NB53_50.out; have hnb94 := NB50_55.out; have hnc94 := NB55_50.out; have hcz95_0 : w91.cell? ⟨gb50, 0, none⟩ = some (.int .i64 a1) := (blk_cell BK50.out 0).trans rfl; have hfz95_0 := blk_frozen BK50.out 0))
                              try simp only [Exit.noGoto_ret]
                              go_ret
                              exact ⟨by first | rfl | (simp [errW_none, errW_some] <;> rfl) | (simp [*, errW_none, errW_some] <;> rfl), by repeat (first | (with_reducible first | exact HB.out | apply below_alloc | apply pw_below_drewN | apply below_drew1 | refine below_set ?_ GE50.out | refine below_set ?_ GE51.out | refine below_set ?_ GE52.out | refine below_set ?_ GE53.out | refine below_set ?_ GE54.out | refine below_set ?_ GE55.out) | exact HB.out)⟩
                            · rw [if_neg c79] at H
                              have c79b0 : decide (0 ≤ x10_1) = false := decide_eq_false c79
                              clear c79
                              obtain rfl := Option.some.inj H
                              have hnb96 := NB51_50.out
                              have hnc96 := NB50_51.out
                              have hnb97 := NB51_52.out
                              have hnc97 := NB52_51.out
                              have hnb98 := NB51_53.out
                              have hnc98 := NB53_51.out
                              have hnb99 := NB51_54.out
                              have hnc99 := NB54_51.out
                              have hnb100 := NB51_55.out
                              have hnc100 := NB55_51.out
                              have hcz101_0 : wc.cell? ⟨gb51, 0, none⟩ = some (.func (.func 33) #[] #[]) := (blk_cell BK51.out 0).trans rfl
                              have hfz101_0 := blk_frozen BK51.out 0
                              have hnb102 := NB54_50.out
                              have hnc102 := NB50_54.out
                              have hnb103 := NB54_52.out
                              have hnc103 := NB52_54.out
                              have hnb104 := NB54_53.out
                              have hnc104 := NB53_54.out
                              have hnb105 := NB54_55.out
                              have hnc105 := NB55_54.out
                              have hcz106_0 : wc.cell? ⟨gb54, 0, none⟩ = some (.int .i64 a4) := (blk_cell BK54.out 0).trans rfl
                              have hfz106_0 := blk_frozen BK54.out 0
                              go_wp2_with (first | (go_at_call 33; (with_reducible refine (breaks_Fill_1.calls a4 t169 _ A76.out).mono ?_); rintro e w107 ⟨rfl, hb⟩; have n0_ := Aside0.mk (blk_below (g := gb50) (o := .cells #[.int .i64 a1] 3 (0, 0)) (by (with_reducible repeat (first | refine blk_drewN ?_ _ | refine blk_drew ?_ | refine blk_alloc ?_ _)); exact BK50.out) hb); have n1_ := Aside0.mk (blk_below (g := gb51) (o := .cells #[.func (.func 33) #[] #[]] 30 (0, 0)) (by (with_reducible repeat (first | refine blk_drewN ?_ _ | refine blk_drew ?_ | refine blk_alloc ?_ _)); exact BK51.out) hb); have n2_ := Aside0.mk (blk_below (g := gb52) (o := .cells #[.slice (some ad165) l2.length c2] 22 (0, 0)) (by (with_reducible repeat (first | refine blk_drewN ?_ _ | refine blk_drew ?_ | refine blk_alloc ?_ _)); exact BK52.out) hb); have n3_ := Aside0.mk (blk_below (g := gb53) (o := .cells #[.slice (some ad167) l3.length c3] 35 (0, 0)) (by (with_reducible repeat (first | refine blk_drewN ?_ _ | refine blk_drew ?_ | refine blk_alloc ?_ _)); exact BK53.out) hb); have n4_ := Aside0.mk (blk_below (g := gb54) (o := .cells #[.int .i64 a4] 3 (0, 0)) (by (with_reducible repeat (first | refine blk_drewN ?_ _ | refine blk_drew ?_ | refine blk_alloc ?_ _)); exact BK54.out) hb); have n5_ := Aside0.mk (blk_below (g := gb55) (o := .cells #[.slice A5 l5.length c5] 22 (0, 0)) (by (with_reducible repeat (first | refine blk_drewN ?_ _ | refine blk_drew ?_ | refine blk_alloc ?_ _)); exact BK55.out) hb); have n6_ := Aside0.mk (below_step (by repeat (first | (with_reducible first | exact HB.out | apply below_alloc | apply pw_below_drewN | apply below_drew1 | refine below_set ?_ GE50.out | refine below_set ?_ GE51.out | refine below_set ?_ GE52.out | refine below_set ?_ GE53.out | refine below_set ?_ GE54.out | refine below_set ?_ GE55.out) | exact HB.out)) hb); clear BK50; clear BK51; clear BK52; clear BK53; clear BK54; clear BK55; clear HB; have BK50 := n0_; have BK51 := n1_; have BK52 := n2_; have BK53 := n3_; have BK54 := n4_; have BK55 := n5_; have HB := n6_; clear n0_ n1_ n2_ n3_ n4_ n5_ n6_; (try clear hb); (try clear hb2); (try clear hk); (try clear hi); have hnb108 := NB50_52.out; have hnc108 := NB52_50.out; have hnb109 := NB50_53.out; have hnc109 := NB53_50.out; have hnb110 := NB50_55.out; have hnc110 := NB55_50.out; have hcz111_0 : w107.cell? ⟨gb50, 0, none⟩ = some (.int .i64 a1) := (blk_cell BK50.out 0).trans rfl; have hfz111_0 := blk_frozen BK50.out 0))
                              try simp only [Exit.noGoto_ret]
                              go_ret
                              exact ⟨by first | rfl | (simp [errW_none, errW_some] <;> rfl) | (simp [*, errW_none, errW_some] <;> rfl), by repeat (first | (with_reducible first | exact HB.out | apply below_alloc | apply pw_below_drewN | apply below_drew1 | refine below_set ?_ GE50.out | refine below_set ?_ GE51.out | refine below_set ?_ GE52.out | refine below_set ?_ GE53.out | refine below_set ?_ GE54.out | refine below_set ?_ GE55.out) | exact HB.out)⟩
                          · rw [if_neg c78] at H
                            have c78b0 : decide (x12_1 < (wrap64 (a1 - 1))) = false := decide_eq_false c78
                            clear c78
                            obtain rfl := Option.some.inj H
                            have hnb112 := NB51_50.out
                            have hnc112 := NB50_51.out
                            have hnb113 := NB51_52.out
                            have hnc113 := NB52_51.out
                            have hnb114 := NB51_53.out
                            have hnc114 := NB53_51.out
                            have hnb115 := NB51_54.out
                            have hnc115 := NB54_51.out
                            have hnb116 := NB51_55.out
                            have hnc116 := NB55_51.out
                            have hcz117_0 : wc.cell? ⟨gb51, 0, none⟩ = some (.func (.func 33) #[] #[]) := (blk_cell BK51.out 0).trans rfl
                            have hfz117_0 := blk_frozen BK51.out 0
                            have hnb118 := NB54_50.out
                            have hnc118 := NB50_54.out
                            have hnb119 := NB54_52.out
                            have hnc119 := NB52_54.out
                            have hnb120 := NB54_53.out
                            have hnc120 := NB53_54.out
                            have hnb121 := NB54_55.out
                            have hnc121 := NB55_54.out
                            have hcz122_0 : wc.cell? ⟨gb54, 0, none⟩ = some (.int .i64 a4) := (blk_cell BK54.out 0).trans rfl
                            have hfz122_0 := blk_frozen BK54.out 0
                            go_wp2_with (first | (go_at_call 33; (with_reducible refine (breaks_Fill_1.calls a4 t169 _ A76.out).mono ?_); rintro e w123 ⟨rfl, hb⟩; have n0_ := Aside0.mk (blk_below (g := gb50) (o := .cells #[.int .i64 a1] 3 (0, 0)) (by (with_reducible repeat (first | refine blk_drewN ?_ _ | refine blk_drew ?_ | refine blk_alloc ?_ _)); exact BK50.out) hb); have n1_ := Aside0.mk (blk_below (g := gb51) (o := .cells #[.func (.func 33) #[] #[]] 30 (0, 0)) (by (with_reducible repeat (first | refine blk_drewN ?_ _ | refine blk_drew ?_ | refine blk_alloc ?_ _)); exact BK51.out) hb); have n2_ := Aside0.mk (blk_below (g := gb52) (o := .cells #[.slice (some ad165) l2.length c2] 22 (0, 0)) (by (with_reducible repeat (first | refine blk_drewN ?_ _ | refine blk_drew ?_ | refine blk_alloc ?_ _)); exact BK52.out) hb); have n3_ := Aside0.mk (blk_below (g := gb53) (o := .cells #[.slice (some ad167) l3.length c3] 35 (0, 0)) (by (with_reducible repeat (first | refine blk_drewN ?_ _ | refine blk_drew ?_ | refine blk_alloc ?_ _)); exact BK53.out) hb); have n4_ := Aside0.mk (blk_below (g := gb54) (o := .cells #[.int .i64 a4] 3 (0, 0)) (by (with_reducible repeat (first | refine blk_drewN ?_ _ | refine blk_drew ?_ | refine blk_alloc ?_ _)); exact BK54.out) hb); have n5_ := Aside0.mk (blk_below (g := gb55) (o := .cells #[.slice A5 l5.length c5] 22 (0, 0)) (by (with_reducible repeat (first | refine blk_drewN ?_ _ | refine blk_drew ?_ | refine blk_alloc ?_ _)); exact BK55.out) hb); have n6_ := Aside0.mk (below_step (by repeat (first | (with_reducible first | exact HB.out | apply below_alloc | apply pw_below_drewN | apply below_drew1 | refine below_set ?_ GE50.out | refine below_set ?_ GE51.out | refine below_set ?_ GE52.out | refine below_set ?_ GE53.out | refine below_set ?_ GE54.out | refine below_set ?_ GE55.out) | exact HB.out)) hb); clear BK50; clear BK51; clear BK52; clear BK53; clear BK54; clear BK55; clear HB; have BK50 := n0_; have BK51 := n1_; have BK52 := n2_; have BK53 := n3_; have BK54 := n4_; have BK55 := n5_; have HB := n6_; clear n0_ n1_ n2_ n3_ n4_ n5_ n6_; (try clear hb); (try clear hb2); (try clear hk); (try clear hi); have hnb124 := NB50_52.out; have hnc124 := NB52_50.out; have hnb125 := NB50_53.out; have hnc125 := NB53_50.out; have hnb126 := NB50_55.out; have hnc126 := NB55_50.out; have hcz127_0 : w123.cell? ⟨gb50, 0, none⟩ = some (.int .i64 a1) := (blk_cell BK50.out 0).trans rfl; have hfz127_0 := blk_frozen BK50.out 0))
                            try simp only [Exit.noGoto_ret]
                            go_ret
                            exact ⟨by first | rfl | (simp [errW_none, errW_some] <;> rfl) | (simp [*, errW_none, errW_some] <;> rfl), by repeat (first | (with_reducible first | exact HB.out | apply below_alloc | apply pw_below_drewN | apply below_drew1 | refine below_set ?_ GE50.out | refine below_set ?_ GE51.out | refine below_set ?_ GE52.out | refine below_set ?_ GE53.out | refine below_set ?_ GE54.out | refine below_set ?_ GE55.out) | exact HB.out)⟩
                        · rw [if_neg c77] at H
                          have c77b0 : decide (t169 < x11_11) = false := decide_eq_false c77
                          clear c77
                          by_cases c128 : 0 ≤ x12_1
                          · rw [if_pos c128] at H
                            have c128b0 : decide (0 ≤ x12_1) = true := decide_eq_true c128
                            clear c128
                            by_cases c129 : x12_1 < (l5.length : Int)
                            · rw [if_pos c129] at H
                              have c129b0 : decide (x12_1 < (l5.length : Int)) = true := decide_eq_true c129
                              clear c129
                              by_cases c130 : (rd l5 x12_1) = 2
                              · rw [if_pos c130] at H
                                have c130b0 : ((rd l5 x12_1) == 2) = true := beq_iff_eq.mpr c130
                                have c130b1 : ((rd l5 x12_1) != 2) = false := bne_eq_false_iff_eq.mpr c130
                                clear c130
                                obtain rfl := Option.some.inj H
                                have hnb131 := NB51_50.out
                                have hnc131 := NB50_51.out
                                have hnb132 := NB51_52.out
                                have hnc132 := NB52_51.out
                                have hnb133 := NB51_53.out
                                have hnc133 := NB53_51.out
                                have hnb134 := NB51_54.out
                                have hnc134 := NB54_51.out
                                have hnb135 := NB51_55.out
                                have hnc135 := NB55_51.out
                                have hcz136_0 : wc.cell? ⟨gb51, 0, none⟩ = some (.func (.func 33) #[] #[]) := (blk_cell BK51.out 0).trans rfl
                                have hfz136_0 := blk_frozen BK51.out 0
                                have hnb137 := NB54_50.out
                                have hnc137 := NB50_54.out
                                have hnb138 := NB54_52.out
                                have hnc138 := NB52_54.out
                                have hnb139 := NB54_53.out
                                have hnc139 := NB53_54.out
                                have hnb140 := NB54_55.out
                                have hnc140 := NB55_54.out
                                have hcz141_0 : wc.cell? ⟨gb54, 0, none⟩ = some (.int .i64 a4) := (blk_cell BK54.out 0).trans rfl
                                have hfz141_0 := blk_frozen BK54.out 0
                                go_wp2_with (first | (go_at_call 33; (with_reducible refine (breaks_Fill_1.calls a4 t169 _ A76.out).mono ?_); rintro e w142 ⟨rfl, hb⟩; have n0_ := Aside0.mk (blk_below (g := gb50) (o := .cells #[.int .i64 a1] 3 (0, 0)) (by (with_reducible repeat (first | refine blk_drewN ?_ _ | refine blk_drew ?_ | refine blk_alloc ?_ _)); exact BK50.out) hb); have n1_ := Aside0.mk (blk_below (g := gb51) (o := .cells #[.func (.func 33) #[] #[]] 30 (0, 0)) (by (with_reducible repeat (first | refine blk_drewN ?_ _ | refine blk_drew ?_ | refine blk_alloc ?_ _)); exact BK51.out) hb); have n2_ := Aside0.mk (blk_below (g := gb52) (o := .cells #[.slice (some ad165) l2.length c2] 22 (0, 0)) (by (with_reducible repeat (first | refine blk_drewN ?_ _ | refine blk_drew ?_ | refine blk_alloc ?_ _)); exact BK52.out) hb); have n3_ := Aside0.mk (blk_below (g := gb53) (o := .cells #[.slice (some ad167) l3.length c3] 35 (0, 0)) (by (with_reducible repeat (first | refine blk_drewN ?_ _ | refine blk_drew ?_ | refine blk_alloc ?_ _)); exact BK53.out) hb); have n4_ := Aside0.mk (blk_below (g := gb54) (o := .cells #[.int .i64 a4] 3 (0, 0)) (by (with_reducible repeat (first | refine blk_drewN ?_ _ | refine blk_drew ?_ | refine blk_alloc ?_ _)); exact BK54.out) hb); have n5_ := Aside0.mk (blk_below (g := gb55) (o := .cells #[.slice A5 l5.length c5] 22 (0, 0)) (by (with_reducible repeat (first | refine blk_drewN ?_ _ | refine blk_drew ?_ | refine blk_alloc ?_ _)); exact BK55.out) hb); have n6_ := Aside0.mk (below_step (by repeat (first | (with_reducible first | exact HB.out | apply below_alloc | apply pw_below_drewN | apply below_drew1 | refine below_set ?_ GE50.out | refine below_set ?_ GE51.out | refine below_set ?_ GE52.out | refine below_set ?_ GE53.out | refine below_set ?_ GE54.out | refine below_set ?_ GE55.out) | exact HB.out)) hb); clear BK50; clear BK51; clear BK52; clear BK53; clear BK54; clear BK55; clear HB; have BK50 := n0_; have BK51 := n1_; have BK52 := n2_; have BK53 := n3_; have BK54 := n4_; have BK55 := n5_; have HB := n6_; clear n0_ n1_ n2_ n3_ n4_ n5_ n6_; (try clear hb); (try clear hb2); (try clear hk); (try clear hi); have hnb143 := NB55_50.out; have hnc143 := NB50_55.out; have hnb144 := NB55_52.out; have hnc144 := NB52_55.out; have hnb145 := NB55_53.out; have hnc145 := NB53_55.out; have hcz146_0 : w142.cell? ⟨gb55, 0, none⟩ = some (.slice A5 l5.length c5) := (blk_cell BK55.out 0).trans rfl; have hfz146_0 := blk_frozen BK55.out 0; have p170 : 0 ≤ (x12_1 : Int) := of_decide_eq_true (by first | (with_reducible assumption) | assumption); have q170 : x12_1 < (l5.length : Int) := of_decide_eq_true (by first | (with_reducible assumption) | assumption); obtain ⟨ad170, e170, hx170_0⟩ := Kd.at_int HR5.out x12_1 p170 q170; cases e170; replace hx170_0 := (HB.out.cell (World.block_lt_of_cell? w _ hx170_0)).trans hx170_0; replace p170 := eq_true p170; replace q170 := eq_true q170))
                                try simp only [Exit.noGoto_ret]
                                go_ret
                                exact ⟨by first | rfl | (simp [errW_none, errW_some] <;> rfl) | (simp [*, errW_none, errW_some] <;> rfl), by repeat (first | (with_reducible first | exact HB.out | apply below_alloc | apply pw_below_drewN | apply below_drew1 | refine below_set ?_ GE50.out | refine below_set ?_ GE51.out | refine below_set ?_ GE52.out | refine below_set ?_ GE53.out | refine below_set ?_ GE54.out | refine below_set ?_ GE55.out) | exact HB.out)⟩
                              · rw [if_neg c130] at H
                                have c130b0 : ((rd l5 x12_1) == 2) = false := beq_eq_false_iff_ne.mpr c130
                                have c130b1 : ((rd l5 x12_1) != 2) = true := bne_iff_ne.mpr c130
                                by_cases c147 : (rd l5 x12_1) = 1
                                · rw [if_pos c147] at H
                                  have c147b0 : ((rd l5 x12_1) == 1) = true := beq_iff_eq.mpr c147
                                  have c147b1 : ((rd l5 x12_1) != 1) = false := bne_eq_false_iff_eq.mpr c147
                                  clear c147
                                  have H' := Aside0.mk H
                                  clear H
                                  have hnb148 := NB51_50.out
                                  have hnc148 := NB50_51.out
                                  have hnb149 := NB51_52.out
                                  have hnc149 := NB52_51.out
                                  have hnb150 := NB51_53.out
                                  have hnc150 := NB53_51.out
                                  have hnb151 := NB51_54.out
                                  have hnc151 := NB54_51.out
                                  have hnb152 := NB51_55.out
                                  have hnc152 := NB55_51.out
                                  have hcz153_0 : wc.cell? ⟨gb51, 0, none⟩ = some (.func (.func 33) #[] #[]) := (blk_cell BK51.out 0).trans rfl
                                  have hfz153_0 := blk_frozen BK51.out 0
                                  have hnb154 := NB54_50.out
                                  have hnc154 := NB50_54.out
                                  have hnb155 := NB54_52.out
                                  have hnc155 := NB52_54.out
                                  have hnb156 := NB54_53.out
                                  have hnc156 := NB53_54.out
                                  have hnb157 := NB54_55.out
                                  have hnc157 := NB55_54.out
                                  have hcz158_0 : wc.cell? ⟨gb54, 0, none⟩ = some (.int .i64 a4) := (blk_cell BK54.out 0).trans rfl
                                  have hfz158_0 := blk_frozen BK54.out 0
                                  go_wp2_with (first | (go_at_call 33; (with_reducible refine (breaks_Fill_1.calls a4 t169 _ A76.out).mono ?_); rintro e w159 ⟨rfl, hb⟩; have n0_ := Aside0.mk (blk_below (g := gb50) (o := .cells #[.int .i64 a1] 3 (0, 0)) (by (with_reducible repeat (first | refine blk_drewN ?_ _ | refine blk_drew ?_ | refine blk_alloc ?_ _)); exact BK50.out) hb); have n1_ := Aside0.mk (blk_below (g := gb51) (o := .cells #[.func (.func 33) #[] #[]] 30 (0, 0)) (by (with_reducible repeat (first | refine blk_drewN ?_ _ | refine blk_drew ?_ | refine blk_alloc ?_ _)); exact BK51.out) hb); have n2_ := Aside0.mk (blk_below (g := gb52) (o := .cells #[.slice (some ad165) l2.length c2] 22 (0, 0)) (by (with_reducible repeat (first | refine blk_drewN ?_ _ | refine blk_drew ?_ | refine blk_alloc ?_ _)); exact BK52.out) hb); have n3_ := Aside0.mk (blk_below (g := gb53) (o := .cells #[.slice (some ad167) l3.length c3] 35 (0, 0)) (by (with_reducible repeat (first | refine blk_drewN ?_ _ | refine blk_drew ?_ | refine blk_alloc ?_ _)); exact BK53.out) hb); have n4_ := Aside0.mk (blk_below (g := gb54) (o := .cells #[.int .i64 a4] 3 (0, 0)) (by (with_reducible repeat (first | refine blk_drewN ?_ _ | refine blk_drew ?_ | refine blk_alloc ?_ _)); exact BK54.out) hb); have n5_ := Aside0.mk (blk_below (g := gb55) (o := .cells #[.slice A5 l5.length c5] 22 (0, 0)) (by (with_reducible repeat (first | refine blk_drewN ?_ _ | refine blk_drew ?_ | refine blk_alloc ?_ _)); exact BK55.out) hb); have n6_ := Aside0.mk (below_step (by repeat (first | (with_reducible first | exact HB.out | apply below_alloc | apply pw_below_drewN | apply below_drew1 | refine below_set ?_ GE50.out | refine below_set ?_ GE51.out | refine below_set ?_ GE52.out | refine below_set ?_ GE53.out | refine below_set ?_ GE54.out | refine below_set ?_ GE55.out) | exact HB.out)) hb); clear BK50; clear BK51; clear BK52; clear BK53; clear BK54; clear BK55; clear HB; have BK50 := n0_; have BK51 := n1_; have BK52 := n2_; have BK53 := n3_; have BK54 := n4_; have BK55 := n5_; have HB := n6_; clear n0_ n1_ n2_ n3_ n4_ n5_ n6_; (try clear hb); (try clear hb2); (try clear hk); (try clear hi); have hnb160 := NB55_50.out; have hnc160 := NB50_55.out; have hnb161 := NB55_52.out; have hnc161 := NB52_55.out; have hnb162 := NB55_53.out; have hnc162 := NB53_55.out; have hcz163_0 : w159.cell? ⟨gb55, 0, none⟩ = some (.slice A5 l5.length c5) := (blk_cell BK55.out 0).trans rfl; have hfz163_0 := blk_frozen BK55.out 0; have p170 : 0 ≤ (x12_1 : Int) := of_decide_eq_true (by first | (with_reducible assumption) | assumption); have q170 : x12_1 < (l5.length : Int) := of_decide_eq_true (by first | (with_reducible assumption) | assumption); obtain ⟨ad170, e170, hx170_0⟩ := Kd.at_int HR5.out x12_1 p170 q170; cases e170; replace hx170_0 := (HB.out.cell (World.block_lt_of_cell? w _ hx170_0)).trans hx170_0; replace p170 := eq_true p170; replace q170 := eq_true q170; have p171 : 0 ≤ (x12_1 : Int) := of_decide_eq_true (by first | (with_reducible assumption) | assumption); have q171 : x12_1 < (l5.length : Int) := of_decide_eq_true (by first | (with_reducible assumption) | assumption); obtain ⟨ad171, e171, hx171_0⟩ := Kd.at_int HR5.out x12_1 p171 q171; obtain rfl : ad170 = ad171 := (by injection e171); replace hx171_0 := (HB.out.cell (World.block_lt_of_cell? w _ hx171_0)).trans hx171_0; replace p171 := eq_true p171; replace q171 := eq_true q171))
                                  go_roundg kj27
                                  case measure => have := HK1.out; have := HJ11.out; have := HJ27.out; omega
                                  case rel => exact ⟨(x12_1), (x12_1), (x11_11), (wrap64 (x12_1 + 1)), (x13_11), (by first | rfl | (simp; done) | (simp [*]; done)), (by first | rfl | (simp; done) | (simp [*]; done)), (by first | rfl | (simp; done) | (simp [*]; done)), (by first | rfl | (simp; done) | (simp [*]; done)), (by first | rfl | (simp; done) | (simp [*]; done)), H', ⟨by have := HK1.out; have := HJ11.out; have := HJ27.out; omega⟩, ⟨by (with_reducible repeat (first | refine blk_drewN ?_ _ | refine blk_drew ?_ | refine blk_alloc ?_ _)); exact BK50.out⟩, ⟨by (with_reducible repeat (first | refine blk_drewN ?_ _ | refine blk_drew ?_ | refine blk_alloc ?_ _)); exact BK51.out⟩, ⟨by (with_reducible repeat (first | refine blk_drewN ?_ _ | refine blk_drew ?_ | refine blk_alloc ?_ _)); exact BK52.out⟩, ⟨by (with_reducible repeat (first | refine blk_drewN ?_ _ | refine blk_drew ?_ | refine blk_alloc ?_ _)); exact BK53.out⟩, ⟨by (with_reducible repeat (first | refine blk_drewN ?_ _ | refine blk_drew ?_ | refine blk_alloc ?_ _)); exact BK54.out⟩, ⟨by (with_reducible repeat (first | refine blk_drewN ?_ _ | refine blk_drew ?_ | refine blk_alloc ?_ _)); exact BK55.out⟩, ⟨by repeat (first | (with_reducible first | exact HB.out | apply below_alloc | apply pw_below_drewN | apply below_drew1 | refine below_set ?_ GE50.out | refine below_set ?_ GE51.out | refine below_set ?_ GE52.out | refine below_set ?_ GE53.out | refine below_set ?_ GE54.out | refine below_set ?_ GE55.out) | exact HB.out)⟩⟩
                                · rw [if_neg c147] at H
                                  have c147b0 : ((rd l5 x12_1) == 1) = false := beq_eq_false_iff_ne.mpr c147
                                  have c147b1 : ((rd l5 x12_1) != 1) = true := bne_iff_ne.mpr c147
                                  have H' := Aside0.mk H
                                  clear H
                                  have hnb164 := NB51_50.out
                                  have hnc164 := NB50_51.out
                                  have hnb165 := NB51_52.out
                                  have hnc165 := NB52_51.out
                                  have hnb166 := NB51_53.out
                                  have hnc166 := NB53_51.out
                                  have hnb167 := NB51_54.out
                                  have hnc167 := NB54_51.out
                                  have hnb168 := NB51_55.out
                                  have hnc168 := NB55_51.out
                                  have hcz169_0 : wc.cell? ⟨gb51, 0, none⟩ = some (.func (.func 33) #[] #[]) := (blk_cell BK51.out 0).trans rfl
                                  have hfz169_0 := blk_frozen BK51.out 0
                                  have hnb170 := NB54_50.out
                                  have hnc170 := NB50_54.out
                                  have hnb171 := NB54_52.out
                                  have hnc171 := NB52_54.out
                                  have hnb172 := NB54_53.out
                                  have hnc172 := NB53_54.out
                                  have hnb173 := NB54_55.out
                                  have hnc173 := NB55_54.out
                                  have hcz174_0 : wc.cell? ⟨gb54, 0, none⟩ = some (.int .i64 a4) := (blk_cell BK54.out 0).trans rfl
                                  have hfz174_0 := blk_frozen BK54.out 0
                                  go_wp2_with (first | (go_at_call 33; (with_reducible refine (breaks_Fill_1.calls a4 t169 _ A76.out).mono ?_); rintro e w175 ⟨rfl, hb⟩; have n0_ := Aside0.mk (blk_below (g := gb50) (o := .cells #[.int .i64 a1] 3 (0, 0)) (by (with_reducible repeat (first | refine blk_drewN ?_ _ | refine blk_drew ?_ | refine blk_alloc ?_ _)); exact BK50.out) hb); have n1_ := Aside0.mk (blk_below (g := gb51) (o := .cells #[.func (.func 33) #[] #[]] 30 (0, 0)) (by (with_reducible repeat (first | refine blk_drewN ?_ _ | refine blk_drew ?_ | refine blk_alloc ?_ _)); exact BK51.out) hb); have n2_ := Aside0.mk (blk_below (g := gb52) (o := .cells #[.slice (some ad165) l2.length c2] 22 (0, 0)) (by (with_reducible repeat (first | refine blk_drewN ?_ _ | refine blk_drew ?_ | refine blk_alloc ?_ _)); exact BK52.out) hb); have n3_ := Aside0.mk (blk_below (g := gb53) (o := .cells #[.slice (some ad167) l3.length c3] 35 (0, 0)) (by (with_reducible repeat (first | refine blk_drewN ?_ _ | refine blk_drew ?_ | refine blk_alloc ?_ _)); exact BK53.out) hb); have n4_ := Aside0.mk (blk_below (g := gb54) (o := .cells #[.int .i64 a4] 3 (0, 0)) (by (with_reducible repeat (first | refine blk_drewN ?_ _ | refine blk_drew ?_ | refine blk_alloc ?_ _)); exact BK54.out) hb); have n5_ := Aside0.mk (blk_below (g := gb55) (o := .cells #[.slice A5 l5.length c5] 22 (0, 0)) (by (with_reducible repeat (first | refine blk_drewN ?_ _ | refine blk_drew ?_ | refine blk_alloc ?_ _)); exact BK55.out) hb); have n6_ := Aside0.mk (below_step (by repeat (first | (with_reducible first | exact HB.out | apply below_alloc | apply pw_below_drewN | apply below_drew1 | refine below_set ?_ GE50.out | refine below_set ?_ GE51.out | refine below_set ?_ GE52.out | refine below_set ?_ GE53.out | refine below_set ?_ GE54.out | refine below_set ?_ GE55.out) | exact HB.out)) hb); clear BK50; clear BK51; clear BK52; clear BK53; clear BK54; clear BK55; clear HB; have BK50 := n0_; have BK51 := n1_; have BK52 := n2_; have BK53 := n3_; have BK54 := n4_; have BK55 := n5_; have HB := n6_; clear n0_ n1_ n2_ n3_ n4_ n5_ n6_; (try clear hb); (try clear hb2); (try clear hk); (try clear hi); have hnb176 := NB55_50.out; have hnc176 := NB50_55.out; have hnb177 := NB55_52.out; have hnc177 := NB52_55.out; have hnb178 := NB55_53.out; have hnc178 := NB53_55.out; have hcz179_0 : w175.cell? ⟨gb55, 0, none⟩ = some (.slice A5 l5.length c5) := (blk_cell BK55.out 0).trans rfl; have hfz179_0 := blk_frozen BK55.out 0; have p170 : 0 ≤ (x12_1 : Int) := of_decide_eq_true (by first | (with_reducible assumption) | assumption); have q170 : x12_1 < (l5.length : Int) := of_decide_eq_true (by first | (with_reducible assumption) | assumption); obtain ⟨ad170, e170, hx170_0⟩ := Kd.at_int HR5.out x12_1 p170 q170; cases e170; replace hx170_0 := (HB.out.cell (World.block_lt_of_cell? w _ hx170_0)).trans hx170_0; replace p170 := eq_true p170; replace q170 := eq_true q170; have p171 : 0 ≤ (x12_1 : Int) := of_decide_eq_true (by first | (with_reducible assumption) | assumption); have q171 : x12_1 < (l5.length : Int) := of_decide_eq_true (by first | (with_reducible assumption) | assumption); obtain ⟨ad171, e171, hx171_0⟩ := Kd.at_int HR5.out x12_1 p171 q171; obtain rfl : ad170 = ad171 := (by injection e171); replace hx171_0 := (HB.out.cell (World.block_lt_of_cell? w _ hx171_0)).trans hx171_0; replace p171 := eq_true p171; replace q171 := eq_true q171))
                                  go_roundg kj27
                                  case measure => have := HK1.out; have := HJ11.out; have := HJ27.out; omega
                                  case rel => exact ⟨(x12_1), (x10_1), (x11_11), (wrap64 (x12_1 + 1)), (x13_11), (by first | rfl | (simp; done) | (simp [*]; done)), (by first | rfl | (simp; done) | (simp [*]; done)), (by first | rfl | (simp; done) | (simp [*]; done)), (by first | rfl | (simp; done) | (simp [*]; done)), (by first | rfl | (simp; done) | (simp [*]; done)), H', ⟨by have := HK1.out; have := HJ11.out; have := HJ27.out; omega⟩, ⟨by (with_reducible repeat (first | refine blk_drewN ?_ _ | refine blk_drew ?_ | refine blk_alloc ?_ _)); exact BK50.out⟩, ⟨by (with_reducible repeat (first | refine blk_drewN ?_ _ | refine blk_drew ?_ | refine blk_alloc ?_ _)); exact BK51.out⟩, ⟨by (with_reducible repeat (first | refine blk_drewN ?_ _ | refine blk_drew ?_ | refine blk_alloc ?_ _)); exact BK52.out⟩, ⟨by (with_reducible repeat (first | refine blk_drewN ?_ _ | refine blk_drew ?_ | refine blk_alloc ?_ _)); exact BK53.out⟩, ⟨by (with_reducible repeat (first | refine blk_drewN ?_ _ | refine blk_drew ?_ | refine blk_alloc ?_ _)); exact BK54.out⟩, ⟨by (with_reducible repeat (first | refine blk_drewN ?_ _ | refine blk_drew ?_ | refine blk_alloc ?_ _)); exact BK55.out⟩, ⟨by repeat (first | (with_reducible first | exact HB.out | apply below_alloc | apply pw_below_drewN | apply below_drew1 | refine below_set ?_ GE50.out | refine below_set ?_ GE51.out | refine below_set ?_ GE52.out | refine below_set ?_ GE53.out | refine below_set ?_ GE54.out | refine below_set ?_ GE55.out) | exact HB.out)⟩⟩
                            · rw [if_neg c129] at H
                              exact absurd H (by simp)
                          · rw [if_neg c128] at H
                            exact absurd H (by simp)
            · rw [if_neg c11] at H
              exact absurd H (by simp)
          · rw [if_neg c9] at H
            exact absurd H (by simp)
        · rw [if_neg c8] at H
          exact absurd H (by simp)
      · rw [if_neg c7] at H
        have c7b0 : decide (x12_1 < a1) = false := decide_eq_false c7
        clear c7
        by_cases c180 : x9_1 < (wrap64 (a1 - 1))
        · rw [if_pos c180] at H
          have c180b0 : decide (x9_1 < (wrap64 (a1 - 1))) = true := decide_eq_true c180
          clear c180
          by_cases c181 : x10_1 ≥ 0
          · rw [if_pos c181] at H
            have c181b0 : decide (0 ≤ x10_1) = true := decide_eq_true c181
            clear c181
            obtain rfl := Option.some.inj H
            have hnb182 := NB50_51.out
            have hnc182 := NB51_50.out
            have hnb183 := NB50_52.out
            have hnc183 := NB52_50.out
            have hnb184 := NB50_53.out
            have hnc184 := NB53_50.out
            have hnb185 := NB50_54.out
            have hnc185 := NB54_50.out
            have hnb186 := NB50_55.out
            have hnc186 := NB55_50.out
            have hcz187_0 : wr.cell? ⟨gb50, 0, none⟩ = some (.int .i64 a1) := (blk_cell BK50.out 0).trans rfl
            have hfz187_0 := blk_frozen BK50.out 0
            try go_wp2
            try (go_step3; try go_wp2)
            try (go_step3; try go_wp2)
            repeat (go_quiet (fail); try go_wp2)
            try simp only [Exit.noGoto_ret]
            go_ret
            exact ⟨by first | rfl | (simp [errW_none, errW_some] <;> rfl) | (simp [*, errW_none, errW_some] <;> rfl), by repeat (first | (with_reducible first | exact HB.out | apply below_alloc | apply pw_below_drewN | apply below_drew1 | refine below_set ?_ GE50.out | refine below_set ?_ GE51.out | refine below_set ?_ GE52.out | refine below_set ?_ GE53.out | refine below_set ?_ GE54.out | refine below_set ?_ GE55.out) | exact HB.out)⟩
          · rw [if_neg c181] at H
            have c181b0 : decide (0 ≤ x10_1) = false := decide_eq_false c181
            clear c181
            obtain rfl := Option.some.inj H
            have hnb188 := NB50_51.out
            have hnc188 := NB51_50.out
            have hnb189 := NB50_52.out
            have hnc189 := NB52_50.out
            have hnb190 := NB50_53.out
            have hnc190 := NB53_50.out
            have hnb191 := NB50_54.out
            have hnc191 := NB54_50.out
            have hnb192 := NB50_55.out
            have hnc192 := NB55_50.out
            have hcz193_0 : wr.cell? ⟨gb50, 0, none⟩ = some (.int .i64 a1) := (blk_cell BK50.out 0).trans rfl
            have hfz193_0 := blk_frozen BK50.out 0
            try go_wp2
            try (go_step3; try go_wp2)
            try (go_step3; try go_wp2)
            repeat (go_quiet (fail); try go_wp2)
            try simp only [Exit.noGoto_ret]
            go_ret
            exact ⟨by first | rfl | (simp [errW_none, errW_some] <;> rfl) | (simp [*, errW_none, errW_some] <;> rfl), by repeat (first | (with_reducible first | exact HB.out | apply below_alloc | apply pw_below_drewN | apply below_drew1 | refine below_set ?_ GE50.out | refine below_set ?_ GE51.out | refine below_set ?_ GE52.out | refine below_set ?_ GE53.out | refine below_set ?_ GE54.out | refine below_set ?_ GE55.out) | exact HB.out)⟩
        · rw [if_neg c180] at H
          have c180b0 : decide (x9_1 < (wrap64 (a1 - 1))) = false := decide_eq_false c180
          clear c180
          obtain rfl := Option.some.inj H
          have hnb194 := NB50_51.out
          have hnc194 := NB51_50.out
          have hnb195 := NB50_52.out
          have hnc195 := NB52_50.out
          have hnb196 := NB50_53.out
          have hnc196 := NB53_50.out
          have hnb197 := NB50_54.out
          have hnc197 := NB54_50.out
          have hnb198 := NB50_55.out
          have hnc198 := NB55_50.out
          have hcz199_0 : wr.cell? ⟨gb50, 0, none⟩ = some (.int .i64 a1) := (blk_cell BK50.out 0).trans rfl
          have hfz199_0 := blk_frozen BK50.out 0
          try go_wp2
          try (go_step3; try go_wp2)
          try (go_step3; try go_wp2)
          repeat (go_quiet (fail); try go_wp2)
          try simp only [Exit.noGoto_ret]
          go_ret
          exact ⟨by first | rfl | (simp [errW_none, errW_some] <;> rfl) | (simp [*, errW_none, errW_some] <;> rfl), by repeat (first | (with_reducible first | exact HB.out | apply below_alloc | apply pw_below_drewN | apply below_drew1 | refine below_set ?_ GE50.out | refine below_set ?_ GE51.out | refine below_set ?_ GE52.out | refine below_set ?_ GE53.out | refine below_set ?_ GE54.out | refine below_set ?_ GE55.out) | exact HB.out)⟩

end Go.Proofs.Ythllgpjjjegenaa.Q

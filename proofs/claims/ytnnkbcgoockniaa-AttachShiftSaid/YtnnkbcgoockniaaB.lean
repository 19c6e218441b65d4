/- attach: back, an iterator over anchors. -/
import Derived.Test.YtnnkbcgoockniaaA
import Derived.RangeFuncNested
import Derived.RangeFuncBound
import Derived.RangeFuncCalls
import Derived.RangeFuncLeaves
import Derived.RangeFuncBox
import Derived.Shelf.Abstract
import Derived.Shelf.RegionOpen
import Derived.WalkKit
import Derived.OwnWalkIn
import Derived.TacticsInMore
import Derived.LoopNIn
import Derived.LoopIn
import Derived.WalkMore
import Derived.Lib.Hide
namespace Go.Proofs.Ytnnkbcgoockniaa.Q
open Go.RowKit Go.Shelf Go.Proofs.YtnnkbcgoockniaaW.PrintWords Go.Proofs.YtnnkbcgoockniaaW.PrintLast Go.Proofs.YtnnkbcgoockniaaW.PrintMore
set_option linter.unusedSimpArgs false
set_option linter.unusedVariables false
attribute [local go_sem] Oper.semAt_some

/-- The anchors of a class of the first k glyphs, from the last glyph on. -/
def backs (l : List S35) (c : Int) : Nat → List (Nat × S33)
  | 0 => []
  | k + 1 => ((l.getD k z35).f1.filter (fun a => a.f0 == c)).map (fun a => (k, a)) ++ backs l c k
def encB (x : Nat × S33) : Array Value := #[.int .i64 (x.1 : Int), .agg #[.int .i64 x.2.f0, .int .i64 x.2.f1, .int .i64 x.2.f2]]

theorem back_calls (A : Option Addr) (n c : Nat) (cl : Int) (w : World) : Calls Try.prog 21 #[.slice A n c, .int .i64 cl] w fun e w' =>
    e = .returned (.func (.func 28) #[] #[.pointer (some ⟨w.heap.size, 0, none⟩), .pointer (some ⟨w.heap.size + 1, 0, none⟩)]) ∧ w' = (w.alloc (.cells #[.slice A n c] 24)).alloc (.cells #[.int .i64 cl] 3) := by
  go_enter Try.func21, Try.ntmps21
  go_wp2
  go_ret
  exact ⟨rfl, rfl⟩

theorem sz33 : (Try.prog.info? 33).map (·.size) = some 3 := by kernel_rfl
theorem sz35 : (Try.prog.info? 35).map (·.size) = some 6 := by kernel_rfl
theorem sz37 : (Try.prog.info? 37).map (·.size) = some 2 := by kernel_rfl
set_option maxRecDepth 100000 in
set_option maxHeartbeats 2000000 in
theorem back1 (n lp g1 g2 n0 : Nat) (A : Option Addr) (c : Nat) (l : List S35) (cl : Int) (J Jx : List (Nat × S33) → World → Prop) (w W : World) (hn0 : n0 = w.heap.size) (hW : Below n0 w W) (hJ : AbidesFrom W.heap.size J)
    (hY : ∀ pre (x : Nat × S33) W1, J pre W1 → pre ++ [x] <+: backs l cl l.length → YieldAt Fence.wide (n - 1) Try.prog lp (encB x) W1 fun e W' =>
      (e = .returned (.bool true) ∧ J (pre ++ [x]) W' ∧ Below n0 W1 W') ∨ (e = .returned (.bool false) ∧ Jx (pre ++ [x]) W'))
    (hg1 : w.cell? ⟨g1, 0, none⟩ = some (.slice A l.length c)) (hl1 : g1 < w.heap.size) (hg2 : w.cell? ⟨g2, 0, none⟩ = some (.int .i64 cl)) (hl2 : g2 < w.heap.size) (hr : Kd.C k35 w A l.length l) (h0 : J [] W) :
    CallsIn Fence.wide n Try.prog 28 #[.func (.yield lp) #[] #[], .pointer (some ⟨g1, 0, none⟩), .pointer (some ⟨g2, 0, none⟩)] W fun e W' => (∃ v, e = .returned v) ∧
      ((∃ ys, ys = backs l cl l.length ∧ J ys W') ∨ (∃ pre, pre <+: backs l cl l.length ∧ Jx pre W')) := by
  subst hn0
  have HR := Aside0.mk hr
  have HG1 := Aside0.mk (And.intro hg1 hl1)
  have HG2 := Aside0.mk (And.intro hg2 hl2)
  have HM := Aside0.mk (Kd.C_max hr)
  have HW := Aside0.mk hW
  have HJ := Aside0.mk hJ
  have HY := Aside0.mk hY
  have x1 := (hW.cell (p := ⟨g1, 0, none⟩) hl1).trans hg1
  have hlm : (l.length : Int) ≤ 9223372036854775807 := by have := Kd.C_max hr; omega
  clear hr hg1 hl1 hg2 hl2 hW hJ hY
  refine callsIn_wide.2 ?_
  go_enter Try.func28, Try.ntmps28
  go_wp2
  clear x1
  go_loopw [4] (fun v4 wr => ∃ (k : Nat) (pre : List (Nat × S33)), v4 = .int .i64 ((k : Int) - 1) ∧ Aside0 (k ≤ l.length) ∧ Aside0 (pre ++ backs l cl k = backs l cl l.length) ∧ Aside0 (J pre wr) ∧ Aside0 (Below w.heap.size w wr))
    (fun v4 _ => (intOf v4 + 1).toNat)
  case atStart =>
    exact ⟨l.length, [], rfl, ⟨Nat.le_refl _⟩, ⟨rfl⟩, ⟨h0⟩, HW⟩
  case round =>
    clear h0 HW
    obtain ⟨k, pre, rfl, HK, HL, HJs, HB⟩ := hrel
    cases k with
    | zero =>
      go_wp2
      go_end0
      exact ⟨⟨_, rfl⟩, .inl ⟨pre, by rw [← HL.out]; simp [backs], HJs.out⟩⟩
    | succ k =>
      have e1 : ((k + 1 : Nat) : Int) - 1 = (k : Int) := by omega
      rw [e1]
      clear e1
      have hk : k < l.length := by have := HK.out; omega
      obtain ⟨ad, A0, c0, A1, c1, rfl, x0, x1, x2, x3, x4, x5, y0, y1, y2, y3⟩ := at_T35 HR.out (k : Int) (by omega) (by omega)
      have HC := Aside0.mk y3
      have HM1 := Aside0.mk (Kd.C_max y3)
      clear x0 x2 x3 x4 x5 y0 y1 y2 y3
      replace x1 := pw_cell_below HB.out x1
      have z1 := pw_cell_below HB.out HG1.out.1
      rw [show rd_T35 l (k : Int) = l.getD k z35 from rfl] at HC HM1 x1
      rw [Int.toNat_natCast] at x1
      have HS := Aside0.mk (show backs l cl (k + 1) = ((l.getD k z35).f1.filter (fun a => a.f0 == cl)).map (fun a => (k, a)) ++ backs l cl k from rfl)
      generalize hy : l.getD k z35 = y at *
      clear hy
      have p1 : (0 ≤ (k : Int)) = True := eq_true (by omega)
      have q1 : ((k : Int) < (l.length : Int)) = True := eq_true (by omega)
      have hkb : (k : Int) ≤ 9223372036854775807 := by omega
      have HKL := Aside0.mk hk
      clear hk
      go_wp2
      clear x1 z1
      go_loopw [20] (fun v20 wr => ∃ (j : Nat) (pre : List (Nat × S33)), v20 = .int .i64 j ∧ Aside0 (j ≤ y.f1.length) ∧ Aside0 (pre ++ (((y.f1.drop j).filter (fun a => a.f0 == cl)).map (fun a => (k, a)) ++ backs l cl k) = backs l cl l.length) ∧ Aside0 (J pre wr) ∧ Aside0 (Below w.heap.size w wr))
        (fun v20 _ => y.f1.length - (intOf v20).toNat)
      case atStart =>
        exact ⟨0, pre, rfl, ⟨Nat.zero_le _⟩, ⟨by rw [List.drop_zero, ← HS.out]; exact HL.out⟩, HJs, HB⟩
      case round =>
        clear HL HJs HB
        obtain ⟨j, pre, rfl, HJK, HL, HJs, HB⟩ := hrel
        by_cases hlt : j < y.f1.length
        · obtain ⟨ad1, rfl, x0, x1, x2⟩ := at_T33 HC.out (j : Int) (by omega) (by omega)
          replace x0 := pw_cell_below HB.out x0
          replace x1 := pw_cell_below HB.out x1
          replace x2 := pw_cell_below HB.out x2
          have HD := Aside0.mk (show y.f1.drop j = y.f1.getD j z33 :: y.f1.drop (j + 1) by rw [List.drop_eq_getElem_cons hlt, List.getD_eq_getElem?_getD, List.getElem?_eq_getElem hlt]; rfl)
          rw [show rd_T33 y.f1 (j : Int) = y.f1.getD j z33 from rfl] at x0 x1 x2
          rw [Int.toNat_natCast] at x0 x1 x2
          generalize y.f1.getD j z33 = z at *
          have p2 : (0 ≤ (j : Int)) = True := eq_true (by omega)
          have q2 : ((j : Int) < (y.f1.length : Int)) = True := eq_true (by omega)
          have HLT := Aside0.mk hlt
          have hb1 : (j : Int) + 1 ≤ 9223372036854775807 := by have := HM1.out; omega
          have HO := Own.start wr
          clear hlt
          by_cases hc : z.f0 = cl
          · have hcb : (z.f0 == cl) = true := beq_iff_eq.mpr hc
            have HF := Aside0.mk (show (y.f1.drop j).filter (fun a => a.f0 == cl) = z :: (y.f1.drop (j + 1)).filter (fun a => a.f0 == cl) by rw [HD.out, List.filter_cons, if_pos hcb])
            have hlen : pre ++ [(k, z)] <+: backs l cl l.length := ⟨((y.f1.drop (j + 1)).filter (fun a => a.f0 == cl)).map (fun a => (k, a)) ++ backs l cl k, by rw [← HL.out, HF.out]; simp⟩
            have HLE := Aside0.mk hlen
            clear hc HD hlen
            go_upto_region 6 with (first
              | ((with_reducible refine gate_dst (N := 6) rfl ?_); refine ev_box (N := 6) (cs := #[.int .i64 0, .int .i64 0, .int .i64 0]) (t := 33) HO rfl rfl ?hr ?_; (case hr => first | (go_simp; done) | (go_simp; rfl)); intro g W1 HO1 hb1; clear HO hb1 x0 x1 x2)
              | ((with_reducible refine gate_store (t := 33) (p := 6) rfl ?_); refine ev_store (cs' := #[.int .i64 z.f0, .int .i64 z.f1, .int .i64 z.f2]) (.agg #[.int .i64 z.f0, .int .i64 z.f1, .int .i64 z.f2]) 0 HO1 rfl rfl rfl rfl 0 rfl rfl sz33 (by simp [Value.oneCell', Value.cells]) (Nat.le_refl _) rfl ?_; intro W2 HO2; clear HO1; have x0 := HO2.box_cell 0 rfl 0 rfl; have x1 := HO2.box_cell 0 rfl 1 rfl; have x2 := HO2.box_cell 0 rfl 2 rfl; have z2 := pw_cell_below (below_step HB.out HO2.below) HG2.out.1))
            obtain ⟨fn, tmps, assign, body, hy, hR⟩ := HY.out pre (k, z) W2 (HJ.out _ _ _ none HJs.out (grown_of_below HO2.below none) (fun r e => by cases e)) HLE.out
            have HRR := Aside0.mk hR
            clear hR
            dsimp only [encB] at hy
            refine (wpIn_wide (n := n)).1 ?_
            gi_wp2
            refine ⟨(fun h => by cases h), HRR.out.mono ?_⟩
            rintro e W3 (⟨rfl, hJ3, hk3⟩ | ⟨rfl, hJx3⟩)
            · have HJ3 := Aside0.mk hJ3
              have HK3 := Aside0.mk hk3
              clear hJ3 hk3
              gi_wp2
              go_wp2
              go_roundw
              case rel => exact ⟨j + 1, pre ++ [(k, z)], by go_num, HLT, ⟨by rw [← HL.out, HF.out]; simp⟩, HJ3, ⟨(below_step HB.out HO2.below).trans HK3.out⟩⟩
              case measure => have := HLT.out; simp [intOf]; omega
            · have HJ3 := Aside0.mk hJx3
              clear hJx3
              gi_wp2
              go_wp2
              refine bodyPost_ret (results_none rfl _ _ _) rfl ?_
              exact ⟨⟨_, rfl⟩, .inr ⟨pre ++ [(k, z)], ⟨((y.f1.drop (j + 1)).filter (fun a => a.f0 == cl)).map (fun a => (k, a)) ++ backs l cl k, by rw [← HL.out, HF.out]; simp⟩, HJ3.out⟩⟩
          · have hcb : (z.f0 == cl) = false := beq_eq_false_iff_ne.mpr hc
            have HF := Aside0.mk (show (y.f1.drop j).filter (fun a => a.f0 == cl) = (y.f1.drop (j + 1)).filter (fun a => a.f0 == cl) by rw [HD.out, List.filter_cons, if_neg (by rw [hcb]; decide)])
            clear hc HD
            go_wp2_with (first
              | ((with_reducible refine gate_dst (N := 6) rfl ?_); refine ev_box (N := 6) (cs := #[.int .i64 0, .int .i64 0, .int .i64 0]) (t := 33) HO rfl rfl ?hr ?_; (case hr => first | (go_simp; done) | (go_simp; rfl)); intro g W1 HO1 hb1; clear HO hb1 x0 x1 x2)
              | ((with_reducible refine gate_store (t := 33) (p := 6) rfl ?_); refine ev_store (cs' := #[.int .i64 z.f0, .int .i64 z.f1, .int .i64 z.f2]) (.agg #[.int .i64 z.f0, .int .i64 z.f1, .int .i64 z.f2]) 0 HO1 rfl rfl rfl rfl 0 rfl rfl sz33 (by simp [Value.oneCell', Value.cells]) (Nat.le_refl _) rfl ?_; intro W2 HO2; clear HO1; have x0 := HO2.box_cell 0 rfl 0 rfl; have x1 := HO2.box_cell 0 rfl 1 rfl; have x2 := HO2.box_cell 0 rfl 2 rfl; have z2 := pw_cell_below (below_step HB.out HO2.below) HG2.out.1))
            go_roundw
            case rel => exact ⟨j + 1, pre, by go_num, HLT, ⟨by rw [← HF.out]; exact HL.out⟩, ⟨HJ.out _ _ _ none HJs.out (grown_of_below HO2.below none) (fun r e => by cases e)⟩, ⟨below_step HB.out HO2.below⟩⟩
            case measure => have := HLT.out; simp [intOf]; omega
        · have q2 : ¬ ((j : Int) < (y.f1.length : Int)) := by omega
          have HE := Aside0.mk (show y.f1.drop j = [] from List.drop_eq_nil_of_le (by omega))
          clear hlt
          go_wp2
          go_roundw
          case rel => exact ⟨k, pre, rfl, ⟨by have := HKL.out; omega⟩, ⟨by have := HL.out; rw [HE.out] at this; simpa using this⟩, HJs, HB⟩
          case measure => first | (simp [intOf]; done) | (simp [intOf]; omega)

abbrev Bk (l : List S35) (cl : Int) := { x : Nat × S33 // x ∈ backs l cl l.length }
theorem back_stops (n g1 g2 : Nat) (A : Option Addr) (c : Nat) (l : List S35) (cl : Int) (w : World)
    (hg1 : w.cell? ⟨g1, 0, none⟩ = some (.slice A l.length c)) (hg2 : w.cell? ⟨g2, 0, none⟩ = some (.int .i64 cl)) (hr : Kd.C k35 w A l.length l) :
    SeqStopsK Fence.wide n Try.prog 28 #[.pointer (some ⟨g1, 0, none⟩), .pointer (some ⟨g2, 0, none⟩)] (fun x : Bk l cl => encB x.1) (Below w.heap.size) (fun ys => ys.map (·.1) = backs l cl l.length) (fun pre => pre.map (·.1) <+: backs l cl l.length) ((backs l cl l.length).length + 1) w :=
  fun lp J Jx W hW hJ hJx hY h0 => by
    refine (back1 n lp g1 g2 w.heap.size A c l cl (fun pre W => ∃ ps : List (Bk l cl), ps.map (·.1) = pre ∧ J ps W) (fun pre W => ∃ ps : List (Bk l cl), ps.map (·.1) = pre ∧ Jx ps W) w W rfl hW ?_ ?_ hg1 (block_lt_of_cell hg1) hg2 (block_lt_of_cell hg2) hr ⟨[], rfl, h0⟩).mono ?_
    · rintro s A B row ⟨ps, e, h⟩ hg hr
      exact ⟨ps, e, hJ _ _ _ row h hg hr⟩
    · rintro pre x W1 ⟨ps, rfl, h⟩ hp
      have hx : x ∈ backs l cl l.length := hp.subset (by simp)
      have hl : ps.length < (backs l cl l.length).length + 1 := by
        have := hp.length_le
        rw [List.length_append, List.length_map, List.length_singleton] at this
        omega
      obtain ⟨fn, tmps, assign, body, h1, h2⟩ := hY ps ⟨x, hx⟩ W1 h hl
      refine ⟨fn, tmps, assign, body, h1, h2.mono ?_⟩
      rintro e W' (⟨he, hj, hk⟩ | ⟨he, hj⟩)
      · exact .inl ⟨he, ⟨_, by simp, hj⟩, hk⟩
      · exact .inr ⟨he, ⟨_, by simp, hj⟩⟩
    · rintro e W' ⟨he, (⟨ys, hy, ps, rfl, h⟩ | ⟨pre, hp, ps, rfl, h⟩)⟩
      · exact ⟨he, .inl ⟨ps, hy, h⟩⟩
      · exact ⟨he, .inr ⟨ps, hp, h⟩⟩

end Go.Proofs.Ytnnkbcgoockniaa.Q

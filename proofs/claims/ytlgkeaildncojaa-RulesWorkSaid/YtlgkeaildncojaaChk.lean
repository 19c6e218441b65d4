/- rules.Check. Printed by genChk.py. -/
import Derived.Test.YtlgkeaildncojaaCk
namespace Go.Proofs.Ytlgkeaildncojaa.Q
open Go.RowKit Go.Shelf Go.Proofs.YtlgkeaildncojaaW.PrintWords Go.Proofs.YtlgkeaildncojaaW.PrintLast Go.Proofs.YtlgkeaildncojaaW.PrintMore
set_option linter.unusedSimpArgs false
set_option linter.unusedVariables false
attribute [local go_sem] Oper.semAt_some
theorem sz49 : (Try.prog.info? 49).map (·.size) = some 5 := by kernel_rfl
theorem rules_step (k L G : Int) (l : List S49) (j : Nat) (h : j < l.length) : rulesP k L G (l.drop j) = if ruleP (l.getD j z49) k L G = 0 then rulesP k L G (l.drop (j + 1)) else ruleP (l.getD j z49) k L G := by
  rw [List.drop_eq_getElem_cons h, List.getD_eq_getElem?_getD, List.getElem?_eq_getElem h]
  rfl
set_option maxRecDepth 100000 in
set_option maxHeartbeats 8000000 in
theorem check_calls (A : Option Addr) (c : Nat) (l : List S49) (k L G : Int) (w : World) (hr : Kd.C k49 w A l.length l) :
    Calls Try.prog 16 #[.agg #[.slice A l.length c], .int .i64 k, .int .i64 L, .int .i64 G] w fun e w' => e = .returned (.int .i64 (checkP l k L G)) ∧ Below w.heap.size w w' := by
  have HR := Aside0.mk hr
  have HM := Aside0.mk (Kd.C_max hr)
  have HO := Own.start w
  clear hr
  go_enter Try.func16, Try.ntmps16
  by_cases h0 : L < 1
  case pos =>
    have e0 : (L < 1) = True := eq_true h0
    have d0 : decide (L < 1) = true := decide_eq_true h0
    have HV : Aside0 (checkP l k L G = 1) := ⟨by unfold checkP; rw [if_pos (by omega)]⟩
    clear h0
    go_wp2_with (first
      | ((with_reducible refine gate_dst (N := 4) rfl ?_); refine ev_box (N := 4) (cs := #[.slice A l.length c]) (t := 24) HO rfl rfl ?hr ?_; (case hr => first | (go_simp; done) | (go_simp; rfl)); intro g4 W4 HO4 hb4; clear HO hb4; have z0 := HO4.box_cell 0 rfl 0 rfl))
    go_ret
    exact ⟨by rw [HV.out]; rfl, HO4.below⟩
  have e0 : (L < 1) = False := eq_false h0
  have d0 : decide (L < 1) = false := decide_eq_false h0
  by_cases h1 : L > 12
  case pos =>
    have e1 : (L > 12) = True := eq_true h1
    have d1 : decide (L > 12) = true := decide_eq_true h1
    have HV : Aside0 (checkP l k L G = 1) := ⟨by unfold checkP; rw [if_pos (by omega)]⟩
    clear h0 h1
    go_wp2_with (first
      | ((with_reducible refine gate_dst (N := 4) rfl ?_); refine ev_box (N := 4) (cs := #[.slice A l.length c]) (t := 24) HO rfl rfl ?hr ?_; (case hr => first | (go_simp; done) | (go_simp; rfl)); intro g4 W4 HO4 hb4; clear HO hb4; have z0 := HO4.box_cell 0 rfl 0 rfl))
    go_ret
    exact ⟨by rw [HV.out]; rfl, HO4.below⟩
  have e1 : (L > 12) = False := eq_false h1
  have d1 : decide (L > 12) = false := decide_eq_false h1
  by_cases h2 : k < 0
  case pos =>
    have e2 : (k < 0) = True := eq_true h2
    have d2 : decide (k < 0) = true := decide_eq_true h2
    have HV : Aside0 (checkP l k L G = 1) := ⟨by unfold checkP; rw [if_pos (by omega)]⟩
    clear h0 h1 h2
    go_wp2_with (first
      | ((with_reducible refine gate_dst (N := 4) rfl ?_); refine ev_box (N := 4) (cs := #[.slice A l.length c]) (t := 24) HO rfl rfl ?hr ?_; (case hr => first | (go_simp; done) | (go_simp; rfl)); intro g4 W4 HO4 hb4; clear HO hb4; have z0 := HO4.box_cell 0 rfl 0 rfl))
    go_ret
    exact ⟨by rw [HV.out]; rfl, HO4.below⟩
  have e2 : (k < 0) = False := eq_false h2
  have d2 : decide (k < 0) = false := decide_eq_false h2
  by_cases h3 : k ≥ L
  case pos =>
    have e3 : (k ≥ L) = True := eq_true h3
    have d3 : decide (k ≥ L) = true := decide_eq_true h3
    have HV : Aside0 (checkP l k L G = 1) := ⟨by unfold checkP; rw [if_pos (by omega)]⟩
    clear h0 h1 h2 h3
    go_wp2_with (first
      | ((with_reducible refine gate_dst (N := 4) rfl ?_); refine ev_box (N := 4) (cs := #[.slice A l.length c]) (t := 24) HO rfl rfl ?hr ?_; (case hr => first | (go_simp; done) | (go_simp; rfl)); intro g4 W4 HO4 hb4; clear HO hb4; have z0 := HO4.box_cell 0 rfl 0 rfl))
    go_ret
    exact ⟨by rw [HV.out]; rfl, HO4.below⟩
  have e3 : (k ≥ L) = False := eq_false h3
  have d3 : decide (k ≥ L) = false := decide_eq_false h3
  by_cases h4 : G < 1
  case pos =>
    have e4 : (G < 1) = True := eq_true h4
    have d4 : decide (G < 1) = true := decide_eq_true h4
    have HV : Aside0 (checkP l k L G = 1) := ⟨by unfold checkP; rw [if_pos (by omega)]⟩
    clear h0 h1 h2 h3 h4
    go_wp2_with (first
      | ((with_reducible refine gate_dst (N := 4) rfl ?_); refine ev_box (N := 4) (cs := #[.slice A l.length c]) (t := 24) HO rfl rfl ?hr ?_; (case hr => first | (go_simp; done) | (go_simp; rfl)); intro g4 W4 HO4 hb4; clear HO hb4; have z0 := HO4.box_cell 0 rfl 0 rfl))
    go_ret
    exact ⟨by rw [HV.out]; rfl, HO4.below⟩
  have e4 : (G < 1) = False := eq_false h4
  have d4 : decide (G < 1) = false := decide_eq_false h4
  by_cases h5 : G > 100
  case pos =>
    have e5 : (G > 100) = True := eq_true h5
    have d5 : decide (G > 100) = true := decide_eq_true h5
    have HV : Aside0 (checkP l k L G = 1) := ⟨by unfold checkP; rw [if_pos (by omega)]⟩
    clear h0 h1 h2 h3 h4 h5
    go_wp2_with (first
      | ((with_reducible refine gate_dst (N := 4) rfl ?_); refine ev_box (N := 4) (cs := #[.slice A l.length c]) (t := 24) HO rfl rfl ?hr ?_; (case hr => first | (go_simp; done) | (go_simp; rfl)); intro g4 W4 HO4 hb4; clear HO hb4; have z0 := HO4.box_cell 0 rfl 0 rfl))
    go_ret
    exact ⟨by rw [HV.out]; rfl, HO4.below⟩
  have e5 : (G > 100) = False := eq_false h5
  have d5 : decide (G > 100) = false := decide_eq_false h5
  have HN1 := Aside0.mk (show ¬ (L < 1 ∨ L > 12 ∨ k < 0 ∨ k ≥ L ∨ G < 1 ∨ G > 100) by omega)
  by_cases h8 : l.length > 8
  case pos =>
    have e8 : ((l.length : Int) > 8) = True := eq_true (by omega)
    have d8 : decide ((l.length : Int) > 8) = true := decide_eq_true (by omega)
    have HV : Aside0 (checkP l k L G = 2) := ⟨by unfold checkP; rw [if_neg HN1.out, if_pos h8]⟩
    clear h0 h1 h2 h3 h4 h5 h8
    go_wp2_with (first
      | ((with_reducible refine gate_dst (N := 4) rfl ?_); refine ev_box (N := 4) (cs := #[.slice A l.length c]) (t := 24) HO rfl rfl ?hr ?_; (case hr => first | (go_simp; done) | (go_simp; rfl)); intro g4 W4 HO4 hb4; clear HO hb4; have z0 := HO4.box_cell 0 rfl 0 rfl))
    go_ret
    exact ⟨by rw [HV.out]; rfl, HO4.below⟩
  have e8 : ((l.length : Int) > 8) = False := eq_false (by omega)
  have d8 : decide ((l.length : Int) > 8) = false := decide_eq_false (by omega)
  have HV0 : Aside0 (checkP l k L G = rulesP k L G l) := ⟨by unfold checkP; rw [if_neg HN1.out, if_neg h8]⟩
  have HL8 := Aside0.mk (show l.length ≤ 8 by omega)
  clear h0 h1 h2 h3 h4 h5 h8
  go_wp2_with (first
    | ((with_reducible refine gate_dst (N := 4) rfl ?_); refine ev_box (N := 4) (cs := #[.slice A l.length c]) (t := 24) HO rfl rfl ?hr ?_; (case hr => first | (go_simp; done) | (go_simp; rfl)); intro g4 W4 HO4 hb4; clear HO hb4; have z0 := HO4.box_cell 0 rfl 0 rfl))
  go_loopw [42] (fun v42 w' => ∃ j : Nat, v42 = .int .i64 j ∧ Aside0 (j ≤ l.length) ∧ Aside0 (rulesP k L G (l.drop j) = rulesP k L G l) ∧ Aside0 (Own w w' [.box g4 24 #[.slice A l.length c]])) (fun v42 _ => l.length - (intOf v42).toNat)
  case atStart => exact ⟨0, rfl, ⟨Nat.zero_le _⟩, ⟨rfl⟩, ⟨HO4⟩⟩
  case round =>
    clear HO4 z0
    obtain ⟨j, rfl, HK, HP, HOO⟩ := hrel
    have HO := HOO.out
    clear HOO
    by_cases hlt : j < l.length
    case neg =>
      have q1 : ¬ ((j : Int) < (l.length : Int)) := by omega
      have HV1 : Aside0 (rulesP k L G l = 0) := ⟨by rw [← HP.out, List.drop_of_length_le (by omega)]; rfl⟩
      clear hlt
      go_wp2
      go_ret
      exact ⟨by rw [HV0.out, HV1.out]; rfl, HO.below⟩
    obtain ⟨ad, A0, c0, A1, c1, A2, c2, A3, c3, A4, c4, hA, x0, x1, x2, x3, x4, y0, y1, y2, y3, y4, y5, y6, y7, y8, y9⟩ := at_T49 HR.out (j : Int) (by omega) (by omega)
    subst hA
    replace x0 := pw_cell_below HO.below x0
    replace x1 := pw_cell_below HO.below x1
    replace x2 := pw_cell_below HO.below x2
    replace x3 := pw_cell_below HO.below x3
    replace x4 := pw_cell_below HO.below x4
    have hst := rules_step k L G l j hlt
    rw [HP.out] at hst
    rw [show rd_T49 l (j : Int) = l.getD j z49 from rfl] at x0 x1 x2 x3 x4 y0 y1 y2 y3 y4 y5 y6 y7 y8 y9
    rw [Int.toNat_natCast] at x0 x1 x2 x3 x4
    have q1 : ((j : Int) < (l.length : Int)) = True := eq_true (by omega)
    have q0 : (0 ≤ (j : Int)) = True := eq_true (by omega)
    have hkb : (j : Int) + 1 ≤ 100 := by have := HL8.out; omega
    generalize l.getD j z49 = yv at *
    obtain ⟨f0, f1, f2, f3, f4⟩ := yv
    dsimp only at x0 x1 x2 x3 x4 y0 y1 y2 y3 y4 y5 y6 y7 y8 y9
    have hcall := fun (W : World) (hb : Below w.heap.size w W) => checkRule_calls f0 f1 f2 f3 f4 A0 A1 A2 A3 A4 c0 c1 c2 c3 c4 k L G W (Kd.C_below y1 hb) (Kd.C_below y3 hb) (Kd.C_below y5 hb) (Kd.C_below y7 hb) (Kd.C_below y9 hb) y0 y2 y4 y6 y8
    clear y0 y1 y2 y3 y4 y5 y6 y7 y8 y9
    generalize ruleP ⟨f0, f1, f2, f3, f4⟩ k L G = rv at hst hcall
    have HC := Aside0.mk hcall
    have HKL := Aside0.mk hlt
    clear hcall hlt
    by_cases h0 : rv = 0
    case neg =>
      have HS := Aside0.mk (show rulesP k L G l = rv by rw [hst, if_neg h0])
      have e0 : (rv == 0) = false := beq_eq_false_iff_ne.mpr h0
      have n0 : (rv != 0) = true := by rw [bne, e0]; rfl
      clear hst h0
      go_wp2_with (first
        | ((with_reducible refine gate_dst (N := 10) rfl ?_); refine ev_box (N := 10) (cs := #[.slice none 0 0, .slice none 0 0, .slice none 0 0, .slice none 0 0, .slice none 0 0]) (t := 49) HO rfl rfl ?hr ?_; (case hr => first | (go_simp; done) | (go_simp; rfl)); intro g5 W5 HO5 hb5)
        | ((with_reducible refine gate_store (t := 49) (p := 10) rfl ?_); refine ev_store (cs' := #[.slice A0 f0.length c0, .slice A1 f1.length c1, .slice A2 f2.length c2, .slice A3 f3.length c3, .slice A4 f4.length c4]) (.agg #[.slice A0 f0.length c0, .slice A1 f1.length c1, .slice A2 f2.length c2, .slice A3 f3.length c3, .slice A4 f4.length c4]) 1 HO5 rfl rfl rfl rfl 0 rfl rfl sz49 (by simp [Value.oneCell', Value.cells]) (Nat.le_refl _) rfl ?_; intro W6 HO6; clear HO5 x0 x1 x2 x3 x4; have z0 := HO6.box_cell 1 rfl 0 rfl; have z1 := HO6.box_cell 1 rfl 1 rfl; have z2 := HO6.box_cell 1 rfl 2 rfl; have z3 := HO6.box_cell 1 rfl 3 rfl; have z4 := HO6.box_cell 1 rfl 4 rfl)
        | (go_at_call 34; go_loud (refine (HC.out _ HO6.below).mono ?_; rintro e W7 ⟨rfl, hb7⟩; have HO7 := HO6.grow hb7; clear HO6 hb7 z0 z1 z2 z3 z4)))
      go_ret
      exact ⟨by rw [HV0.out, HS.out]; rfl, HO7.below⟩
    case pos =>
      have HS := Aside0.mk (show rulesP k L G (l.drop (j + 1)) = rulesP k L G l by rw [hst, if_pos h0])
      have e0 : (rv == 0) = true := beq_iff_eq.mpr h0
      have n0 : (rv != 0) = false := by rw [bne, e0]; rfl
      clear hst h0
      go_wp2_with (first
        | ((with_reducible refine gate_dst (N := 10) rfl ?_); refine ev_box (N := 10) (cs := #[.slice none 0 0, .slice none 0 0, .slice none 0 0, .slice none 0 0, .slice none 0 0]) (t := 49) HO rfl rfl ?hr ?_; (case hr => first | (go_simp; done) | (go_simp; rfl)); intro g5 W5 HO5 hb5)
        | ((with_reducible refine gate_store (t := 49) (p := 10) rfl ?_); refine ev_store (cs' := #[.slice A0 f0.length c0, .slice A1 f1.length c1, .slice A2 f2.length c2, .slice A3 f3.length c3, .slice A4 f4.length c4]) (.agg #[.slice A0 f0.length c0, .slice A1 f1.length c1, .slice A2 f2.length c2, .slice A3 f3.length c3, .slice A4 f4.length c4]) 1 HO5 rfl rfl rfl rfl 0 rfl rfl sz49 (by simp [Value.oneCell', Value.cells]) (Nat.le_refl _) rfl ?_; intro W6 HO6; clear HO5 x0 x1 x2 x3 x4; have z0 := HO6.box_cell 1 rfl 0 rfl; have z1 := HO6.box_cell 1 rfl 1 rfl; have z2 := HO6.box_cell 1 rfl 2 rfl; have z3 := HO6.box_cell 1 rfl 3 rfl; have z4 := HO6.box_cell 1 rfl 4 rfl)
        | (go_at_call 34; go_loud (refine (HC.out _ HO6.below).mono ?_; rintro e W7 ⟨rfl, hb7⟩; have HO7 := HO6.grow hb7; clear HO6 hb7 z0 z1 z2 z3 z4)))
      have HO9 := HO7.upto 1
      go_roundw
      case rel => exact ⟨j + 1, by go_num, ⟨HKL.out⟩, ⟨HS.out⟩, ⟨HO9⟩⟩
      case measure => have := HKL.out; simp [intOf]; omega
end Go.Proofs.Ytlgkeaildncojaa.Q

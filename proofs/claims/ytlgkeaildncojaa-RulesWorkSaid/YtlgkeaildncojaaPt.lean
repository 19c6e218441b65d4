/- (*pass).try: the rules of a lookup tried at a place. -/
import Derived.Test.YtlgkeaildncojaaBg
import Derived.Test.YtlgkeaildncojaaRnd
import Derived.WalkLawsBesides
namespace Go.Proofs.Ytlgkeaildncojaa.Q
open Go.RowKit Go.Shelf Go.Proofs.YtlgkeaildncojaaW.PrintWords Go.Proofs.YtlgkeaildncojaaW.PrintLast Go.Proofs.YtlgkeaildncojaaW.PrintMore
set_option linter.unusedSimpArgs false
set_option linter.unusedVariables false
attribute [local go_sem] Oper.semAt_some
/-- The first rule that matches; the error 34, if too many have been tried; the number of tries. -/
def tryF (its : List S55) (at_ : Int) : List S49 → Nat → Int × Option S49 × Nat
  | [], wk => (0, none, wk)
  | r :: rs, wk => if wk + 1 > 6000 then (34, none, wk + 1) else if matchP r its at_ = true then (0, some r, wk + 1) else tryF its at_ rs (wk + 1)
theorem tryF_step (its : List S55) (at_ : Int) (l : List S49) (j wk : Nat) (h : j < l.length) : tryF its at_ (l.drop j) wk = if wk + 1 > 6000 then (34, none, wk + 1) else if matchP (l.getD j z49) its at_ = true then (0, some (l.getD j z49), wk + 1) else tryF its at_ (l.drop (j + 1)) (wk + 1) := by
  rw [List.drop_eq_getElem_cons h, List.getD_eq_getElem?_getD, List.getElem?_eq_getElem h]
  rfl
/-- A rule as a value; what it leads to is told at a world. -/
def ruleV (w : World) (r : S49) (v : Value) : Prop := ∃ A0 c0 A1 c1 A2 c2 A3 c3 A4 c4, v = .agg #[.slice A0 r.f0.length c0, .slice A1 r.f1.length c1, .slice A2 r.f2.length c2, .slice A3 r.f3.length c3, .slice A4 r.f4.length c4] ∧
  r.f0.length ≤ c0 ∧ (Kd.slice 3 (Kd.int .i64)).C w A0 r.f0.length r.f0 ∧ r.f1.length ≤ c1 ∧ (Kd.slice 3 (Kd.int .i64)).C w A1 r.f1.length r.f1 ∧ r.f2.length ≤ c2 ∧ (Kd.slice 3 (Kd.int .i64)).C w A2 r.f2.length r.f2 ∧ r.f3.length ≤ c3 ∧ (Kd.int .i64).C w A3 r.f3.length r.f3 ∧ r.f4.length ≤ c4 ∧ k60.C w A4 r.f4.length r.f4
def zeroRule : Value := .agg #[.slice none 0 0, .slice none 0 0, .slice none 0 0, .slice none 0 0, .slice none 0 0]
def fails (e : Int) : Ending := .panicked [{ v := .iface 95 (.agg #[.int .i64 e]), recovered := false }]
def tryRes (w : World) (err : Int) (m : Option S49) (e : Ending) : Prop :=
  if err = 0 then (match m with
    | some r => ∃ v, e = .returned (.tuple #[v, .bool true]) ∧ ruleV w r v
    | none => e = .returned (.tuple #[zeroRule, .bool false]))
  else e = fails err
def small (y : S49) : Prop := y.f0.length ≤ 1000 ∧ y.f1.length ≤ 1000 ∧ y.f2.length ≤ 1000
theorem sz3 : (Try.prog.info? 3).map (·.size) = some 1 := by kernel_rfl
theorem results57 (tmps : Array Value) (w : World) (g : Nat) (cs : Array Value) (b : Bool) (hp : tmps.getD 6 undef = .pointer (some ⟨g, 0, none⟩)) (hb : tmps.getD 7 undef = .bool b) (hg : w.heap[g]? = some (.cells cs 49 (0, 0))) (hs : cs.size = 5) :
    (results Try.f57 tmps).run Try.prog w = .ok (.tuple #[.agg cs, .bool b]) w := by
  rw [results_cell_tmp (p := 6) (u := 7) (ty := 49) rfl, hp, hb]
  have h := run_loadVar_row w g 49 49 cs (0, 0) _ hg Try.underlying49 rfl (by rw [sz49, hs])
  simp only [asAddr, Sem.run_pure, Result.andThen_ok]
  rw [h]
  rfl
theorem lens {w : World} {A : Option Addr} {f : List (List Int)} {n : Nat} (h : (Kd.slice 3 (Kd.int .i64)).C w A n f) (hn : n = f.length) : ∀ s ∈ f, s.length ≤ 9223372036854775807 := by
  intro s hs
  obtain ⟨i, hi, rfl⟩ := List.getElem_of_mem hs
  obtain ⟨ad, A0, c0, _, _, _, h2⟩ := at_sl h i (by omega)
  have h3 := Kd.C_max h2
  rw [List.getD_eq_getElem?_getD, List.getElem?_eq_getElem hi] at h3
  exact h3
set_option maxRecDepth 100000 in
set_option maxHeartbeats 8000000 in
theorem try_calls {w W : World} {K : Nat → Obj → Prop} {R : Res} {g : Nat} {Aa Ai : Option Addr} {ca ci : Nat} {all : List S24} {its : List S55} {wk : Nat}
    (HO : Own w W [.box g 77 #[.slice Aa all.length ca, .slice Ai its.length ci, .int .i64 wk], .row k55 55 w.heap.size (.slice Ai its.length ci) its, R] K)
    (HA : Kd.C k24 w Aa all.length all) (k : Nat) (hk : k < all.length) (at_ : Int) (hat : at_ ≤ 1000000) (hi : its.length ≤ 1000000) (hwk : wk ≤ 6001)
    (hsm : ∀ y ∈ (all.getD k z24).f0, small y) (err : Int) (m : Option S49) (wk' : Nat) (h : tryF its at_ (all.getD k z24).f0 wk = (err, m, wk')) :
    Calls Try.prog 57 #[.pointer (some ⟨g, 0, none⟩), .int .i64 k, .int .i64 at_] W fun e W' => Own w W' [.box g 77 #[.slice Aa all.length ca, .slice Ai its.length ci, .int .i64 wk'], .row k55 55 w.heap.size (.slice Ai its.length ci) its, R] K ∧ tryRes w err m e := by
  obtain ⟨ad, A0, c0, hA, x0, y0, y1⟩ := at_T24 HA (k : Int) (by omega) (by omega)
  subst hA
  rw [show rd_T24 all (k : Int) = all.getD k z24 from rfl] at x0 y0 y1
  rw [Int.toNat_natCast] at x0
  generalize all.getD k z24 = lk at *
  obtain ⟨rs⟩ := lk
  dsimp only at x0 y0 y1 h hsm
  have H := Aside0.mk h
  have HSM := Aside0.mk hsm
  have HX := Aside0.mk x0
  have HR := Aside0.mk y1
  have HN := Aside0.mk (Kd.C_max y1)
  have HAT := Aside0.mk hat
  have HI := Aside0.mk hi
  have HWK := Aside0.mk hwk
  have q1 : ((k : Int) < (all.length : Int)) = True := eq_true (by omega)
  have q0 : (0 ≤ (k : Int)) = True := eq_true (by omega)
  clear h hsm y0 y1 HA hk hat hi hwk x0
  have x0 := pw_cell_below HO.below HX.out
  have b0 := HO.box_cell 0 rfl 0 rfl
  go_enter Try.func57, Try.ntmps57
  go_wp2_with (first
    | ((with_reducible refine gate_dst (N := 6) rfl ?_); refine ev_box (N := 6) (cs := #[.slice none 0 0, .slice none 0 0, .slice none 0 0, .slice none 0 0, .slice none 0 0]) (t := 49) HO rfl rfl ?hr ?_; (case hr => first | (go_simp; done) | (go_simp; rfl)); intro g6 W1 HO1 hb1; clear HO hb1 x0 b0; have x0 := pw_cell_below HO1.below HX.out; have b0 := HO1.box_cell 0 rfl 0 rfl))
  clear x0 b0
  go_loopw [19] (fun v19 w' => ∃ (j wj : Nat), v19 = .int .i64 j ∧ Aside0 (j ≤ rs.length) ∧ Aside0 (wj ≤ 6001) ∧ Aside0 (tryF its at_ (rs.drop j) wj = (err, m, wk')) ∧ Aside0 (Own w w' [.box g 77 #[.slice (some ad) all.length ca, .slice Ai its.length ci, .int .i64 wj], .row k55 55 w.heap.size (.slice Ai its.length ci) its, R, .box g6 49 #[.slice none 0 0, .slice none 0 0, .slice none 0 0, .slice none 0 0, .slice none 0 0]] K)) (fun v19 _ => rs.length - (intOf v19).toNat)
  case atStart => exact ⟨0, wk, rfl, ⟨Nat.zero_le _⟩, HWK, H, ⟨HO1⟩⟩
  case round =>
    clear HO1 H HWK
    obtain ⟨j, wj, rfl, HK, HWJ, HP, HOO⟩ := hrel
    have HO := HOO.out
    clear HOO
    by_cases hlt : j < rs.length
    case neg =>
      have r1 : ¬ ((j : Int) < (rs.length : Int)) := by omega
      have he := HP.out
      rw [List.drop_of_length_le (by omega), tryF] at he
      simp only [Prod.mk.injEq] at he
      obtain ⟨e1, e2, e3⟩ := he
      subst e1 e2 e3
      clear hlt HP
      go_wp2_with (first
        | ((with_reducible refine gate_store (t := 49) (p := 6) rfl ?_); refine ev_store (cs' := #[.slice none 0 0, .slice none 0 0, .slice none 0 0, .slice none 0 0, .slice none 0 0]) (.agg #[.slice none 0 0, .slice none 0 0, .slice none 0 0, .slice none 0 0, .slice none 0 0]) 3 HO rfl rfl rfl rfl 0 rfl rfl sz49 (by simp [Value.oneCell', Value.cells]) (Nat.le_refl _) rfl ?_; intro W3 HO3; clear HO))
      have z0 := HO3.box_cell 3 rfl 0 rfl
      have z1 := HO3.box_cell 3 rfl 1 rfl
      have z2 := HO3.box_cell 3 rfl 2 rfl
      have z3 := HO3.box_cell 3 rfl 3 rfl
      have z4 := HO3.box_cell 3 rfl 4 rfl
      exact bodyPost_ret (results57 _ _ g6 _ false rfl rfl (HO3.box_at 3 rfl).1 rfl) rfl ⟨HO3.upto 3, by unfold tryRes; rw [if_pos rfl]; rfl⟩
    case pos =>
      have hst := tryF_step its at_ rs j wj hlt
      rw [HP.out] at hst
      have hsmj := HSM.out _ (getD_in rs j z49 hlt)
      obtain ⟨adr, A0', c0', A1, c1, A2, c2, A3, c3, A4, c4, hA, x0, x1, x2, x3, x4, y0, y1, y2, y3, y4, y5, y6, y7, y8, y9⟩ := at_T49 HR.out (j : Int) (by omega) (by omega)
      subst hA
      rw [show rd_T49 rs (j : Int) = rs.getD j z49 from rfl] at x0 x1 x2 x3 x4 y0 y1 y2 y3 y4 y5 y6 y7 y8 y9
      rw [Int.toNat_natCast] at x0 x1 x2 x3 x4
      replace x0 := pw_cell_below HO.below x0
      replace x1 := pw_cell_below HO.below x1
      replace x2 := pw_cell_below HO.below x2
      replace x3 := pw_cell_below HO.below x3
      replace x4 := pw_cell_below HO.below x4
      generalize rs.getD j z49 = yv at *
      obtain ⟨f0, f1, f2, f3, f4⟩ := yv
      dsimp only at x0 x1 x2 x3 x4 y0 y1 y2 y3 y4 y5 y6 y7 y8 y9
      have HRV : Aside0 (ruleV w ⟨f0, f1, f2, f3, f4⟩ (.agg #[.slice A0' f0.length c0', .slice A1 f1.length c1, .slice A2 f2.length c2, .slice A3 f3.length c3, .slice A4 f4.length c4])) := ⟨A0', c0', A1, c1, A2, c2, A3, c3, A4, c4, rfl, y0, y1, y2, y3, y4, y5, y6, y7, y8, y9⟩
      have Y0 := Aside0.mk y0
      have Y1 := Aside0.mk y1
      have Y2 := Aside0.mk y2
      have Y3 := Aside0.mk y3
      have Y4 := Aside0.mk y4
      have Y5 := Aside0.mk y5
      have Y6 := Aside0.mk y6
      have Y7 := Aside0.mk y7
      have Y8 := Aside0.mk y8
      have Y9 := Aside0.mk y9
      have b2 := HO.box_cell 0 rfl 2 rfl
      have r1 : ((j : Int) < (rs.length : Int)) = True := eq_true (by omega)
      have r0 : (0 ≤ (j : Int)) = True := eq_true (by omega)
      have hkb : (j : Int) + 1 ≤ 9223372036854775807 := by have := HN.out; omega
      have hwb : (wj : Int) + 1 ≤ 7000 := by have := HWJ.out; omega
      have HKL := Aside0.mk hlt
      clear y0 y1 y2 y3 y4 y5 y6 y7 y8 y9 hlt
      by_cases hov : wj + 1 > 6000
      case pos =>
        rw [if_pos hov] at hst
        simp only [Prod.mk.injEq] at hst
        obtain ⟨e1, e2, e3⟩ := hst
        subst e1 e2 e3
        have v1 : ((wj : Int) + 1 > 6000) = True := eq_true (by omega)
        have v2 : decide ((wj : Int) + 1 > 6000) = true := decide_eq_true (by omega)
        clear hov hsmj HP
        go_wp2_with (first
        | ((with_reducible refine gate_dst (N := 9) rfl ?_); refine ev_box (N := 9) (cs := #[.slice none 0 0, .slice none 0 0, .slice none 0 0, .slice none 0 0, .slice none 0 0]) (t := 49) HO rfl rfl ?hr ?_; (case hr => first | (go_simp; done) | (go_simp; rfl)); intro g9 W2 HO2 hb2; clear HO hb2)
        | ((with_reducible refine gate_store (t := 49) (p := 9) rfl ?_); refine ev_store (cs' := #[.slice A0' f0.length c0', .slice A1 f1.length c1, .slice A2 f2.length c2, .slice A3 f3.length c3, .slice A4 f4.length c4]) (.agg #[.slice A0' f0.length c0', .slice A1 f1.length c1, .slice A2 f2.length c2, .slice A3 f3.length c3, .slice A4 f4.length c4]) 4 HO2 rfl rfl rfl rfl 0 rfl rfl sz49 (by simp [Value.oneCell', Value.cells]) (Nat.le_refl _) rfl ?_; intro W3 HO3; clear HO2 x0 x1 x2 x3 x4 b2; have b2 := HO3.box_cell 0 rfl 2 rfl)
        | ((with_reducible refine gate_store (t := 3) (p := 29) rfl ?_); refine ev_store (cs' := #[.slice (some ad) all.length ca, .slice Ai its.length ci, .int .i64 ((wj : Int) + 1)]) (.int .i64 ((wj : Int) + 1)) 0 HO3 rfl rfl rfl rfl 2 rfl rfl sz3 (by simp [Value.oneCell', Value.cells]) (Nat.le_refl 3) rfl ?_; intro W4 HO4; clear HO3 b2; have b2 := HO4.box_cell 0 rfl 2 rfl; have b1 := HO4.box_cell 0 rfl 1 rfl; have z0 := HO4.box_cell 4 rfl 0 rfl; have z1 := HO4.box_cell 4 rfl 1 rfl; have z2 := HO4.box_cell 4 rfl 2 rfl; have z3 := HO4.box_cell 4 rfl 3 rfl; have z4 := HO4.box_cell 4 rfl 4 rfl))
        exact ⟨rfl, HO4.upto 3, by unfold tryRes; rw [if_neg (by decide)]; rfl⟩
      rw [if_neg hov] at hst
      have v1 : ((wj : Int) + 1 > 6000) = False := eq_false (by omega)
      have v2 : decide ((wj : Int) + 1 > 6000) = false := decide_eq_false (by omega)
      obtain ⟨km, hkm⟩ := Ev.rounds (match_ev f0 f1 f2 f3 f4 its hsmj.1 hsmj.2.1 hsmj.2.2 HI.out (lens Y1.out rfl) (lens Y3.out rfl) (lens Y5.out rfl) at_ (by have := HAT.out; omega))
      have HKM := Aside0.mk hkm
      have HOV := Aside0.mk hov
      clear hov hsmj HP hkm
      have hci := (HO.row_sl 1 rfl).2.1
      have HCI := Aside0.mk hci
      clear hci
      go_upto_region 7 with (first
        | ((with_reducible refine gate_dst (N := 9) rfl ?_); refine ev_box (N := 9) (cs := #[.slice none 0 0, .slice none 0 0, .slice none 0 0, .slice none 0 0, .slice none 0 0]) (t := 49) HO rfl rfl ?hr ?_; (case hr => first | (go_simp; done) | (go_simp; rfl)); intro g9 W2 HO2 hb2; clear HO hb2)
        | ((with_reducible refine gate_store (t := 49) (p := 9) rfl ?_); refine ev_store (cs' := #[.slice A0' f0.length c0', .slice A1 f1.length c1, .slice A2 f2.length c2, .slice A3 f3.length c3, .slice A4 f4.length c4]) (.agg #[.slice A0' f0.length c0', .slice A1 f1.length c1, .slice A2 f2.length c2, .slice A3 f3.length c3, .slice A4 f4.length c4]) 4 HO2 rfl rfl rfl rfl 0 rfl rfl sz49 (by simp [Value.oneCell', Value.cells]) (Nat.le_refl _) rfl ?_; intro W3 HO3; clear HO2 x0 x1 x2 x3 x4 b2; have b2 := HO3.box_cell 0 rfl 2 rfl)
        | ((with_reducible refine gate_store (t := 3) (p := 29) rfl ?_); refine ev_store (cs' := #[.slice (some ad) all.length ca, .slice Ai its.length ci, .int .i64 ((wj : Int) + 1)]) (.int .i64 ((wj : Int) + 1)) 0 HO3 rfl rfl rfl rfl 2 rfl rfl sz3 (by simp [Value.oneCell', Value.cells]) (Nat.le_refl 3) rfl ?_; intro W4 HO4; clear HO3 b2; have b2 := HO4.box_cell 0 rfl 2 rfl; have b1 := HO4.box_cell 0 rfl 1 rfl; have z0 := HO4.box_cell 4 rfl 0 rfl; have z1 := HO4.box_cell 4 rfl 1 rfl; have z2 := HO4.box_cell 4 rfl 2 rfl; have z3 := HO4.box_cell 4 rfl 3 rfl; have z4 := HO4.box_cell 4 rfl 4 rfl))
      go_still_tail 6, (by kernel_rfl)
      change wpList _ _ _ _ _ W4.drew
      have HO5 := HO4.drew
      clear HO4 z0 z1 z2 z3 z4 b1 b2
      generalize hbb : matchP ⟨f0, f1, f2, f3, f4⟩ its at_ = bb at hst HKM
      have HBB := Aside0.mk hbb
      clear hbb
      cases bb with
      | true =>
        rw [if_pos rfl] at hst
        simp only [Prod.mk.injEq] at hst
        obtain ⟨e1, e2, e3⟩ := hst
        subst e1 e2 e3
        go_wp2_with (first
          | (go_at_call 21; go_loud (refine (rules_Match.calls km A0' c0' f0 A1 c1 f1 A2 c2 f2 A3 c3 f3 A4 c4 f4 Ai ci its at_ _ _ (HO5.old Y1.out) Y0.out (HO5.old Y3.out) Y2.out (HO5.old Y5.out) Y4.out (HO5.old Y7.out) Y6.out (HO5.old Y9.out) Y8.out (HO5.row_sl 1 rfl).2.2 HCI.out HKM.out).mono ?_; rintro e W6 ⟨rfl, hb⟩; have HO6 := HO5.grow hb; clear HO5 hb; have z0 := HO6.box_cell 4 rfl 0 rfl; have z1 := HO6.box_cell 4 rfl 1 rfl; have z2 := HO6.box_cell 4 rfl 2 rfl; have z3 := HO6.box_cell 4 rfl 3 rfl; have z4 := HO6.box_cell 4 rfl 4 rfl))
          | ((with_reducible refine gate_store (t := 49) (p := 6) rfl ?_); refine ev_store (cs' := #[.slice A0' f0.length c0', .slice A1 f1.length c1, .slice A2 f2.length c2, .slice A3 f3.length c3, .slice A4 f4.length c4]) (.agg #[.slice A0' f0.length c0', .slice A1 f1.length c1, .slice A2 f2.length c2, .slice A3 f3.length c3, .slice A4 f4.length c4]) 3 HO6 rfl rfl rfl rfl 0 rfl rfl sz49 (by simp [Value.oneCell', Value.cells]) (Nat.le_refl _) rfl ?_; intro W7 HO7; clear HO6 z0 z1 z2 z3 z4))
        exact bodyPost_ret (results57 _ _ g6 _ true rfl rfl (HO7.box_at 3 rfl).1 rfl) rfl ⟨HO7.upto 3, by unfold tryRes; rw [if_pos rfl]; exact ⟨_, rfl, HRV.out⟩⟩
      | false =>
        rw [if_neg (by decide)] at hst
        have HST := Aside0.mk hst.symm
        clear hst
        go_wp2_with (first
          | (go_at_call 21; go_loud (refine (rules_Match.calls km A0' c0' f0 A1 c1 f1 A2 c2 f2 A3 c3 f3 A4 c4 f4 Ai ci its at_ _ _ (HO5.old Y1.out) Y0.out (HO5.old Y3.out) Y2.out (HO5.old Y5.out) Y4.out (HO5.old Y7.out) Y6.out (HO5.old Y9.out) Y8.out (HO5.row_sl 1 rfl).2.2 HCI.out HKM.out).mono ?_; rintro e W6 ⟨rfl, hb⟩; have HO6 := HO5.grow hb; clear HO5 hb; have z0 := HO6.box_cell 4 rfl 0 rfl; have z1 := HO6.box_cell 4 rfl 1 rfl; have z2 := HO6.box_cell 4 rfl 2 rfl; have z3 := HO6.box_cell 4 rfl 3 rfl; have z4 := HO6.box_cell 4 rfl 4 rfl)))
        have HO8 := HO6.upto 4
        go_roundw
        case rel => exact ⟨j + 1, wj + 1, by go_num, ⟨HKL.out⟩, ⟨by have := HOV.out; omega⟩, HST, ⟨HO8⟩⟩
        case measure => have := HKL.out; simp [intOf]; omega
end Go.Proofs.Ytlgkeaildncojaa.Q

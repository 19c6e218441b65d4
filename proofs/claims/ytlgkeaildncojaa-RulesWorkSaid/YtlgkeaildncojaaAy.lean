/- rules.Apply. Printed by genAy.py. -/
import Derived.Test.YtlgkeaildncojaaCw
namespace Go.Proofs.Ytlgkeaildncojaa.Q
open Go.RowKit Go.Shelf Go.Proofs.YtlgkeaildncojaaW.PrintWords Go.Proofs.YtlgkeaildncojaaW.PrintLast Go.Proofs.YtlgkeaildncojaaW.PrintMore
set_option linter.unusedSimpArgs false
set_option linter.unusedVariables false
attribute [local go_sem] Oper.semAt_some
/-- The first error among lookups. -/
def allP (n : Nat) : Nat → List S24 → Int
  | _, [] => 0
  | i, l :: t => if checkP l.f0 (i : Int) (n : Int) 100 = 0 then allP n (i + 1) t else checkP l.f0 (i : Int) (n : Int) 100
def applyO (all : List S24) (k : Int) (items : List S55) (may : List Bool) : Option (List S55 × Int × Int) :=
  if k < 0 ∨ k ≥ (all.length : Int) then some ([], 0, 1)
  else if allP all.length 0 all = 0 then
    (if items.length > 200 then some ([], 0, 2)
     else (carryF all k.toNat may 2000000 0 items 0).bind fun y => if y.1 = 0 then some (y.2.1, (y.2.2 : Int), 0) else some ([], 0, y.1))
  else some ([], 0, allP all.length 0 all)
theorem allP_step (n : Nat) (all : List S24) (j : Nat) (h : j < all.length) : allP n j (all.drop j) = if checkP (all.getD j z24).f0 (j : Int) (n : Int) 100 = 0 then allP n (j + 1) (all.drop (j + 1)) else checkP (all.getD j z24).f0 (j : Int) (n : Int) 100 := by
  rw [List.drop_eq_getElem_cons h, List.getD_eq_getElem?_getD, List.getElem?_eq_getElem h]
  rfl
theorem ruleP_good {r : S49} {k L : Int} {n : Nat} (hk : 0 ≤ k) (hL : L = (n : Int)) (h : ruleP r k L 100 = 0) : goodR n r := by
  unfold ruleP at h
  split at h
  · exact absurd h (by decide)
  rename_i h1
  split at h
  · exact absurd h (by decide)
  rename_i h2
  split at h
  · exact absurd h (by decide)
  split at h
  · exact absurd h (by decide)
  split at h
  · exact absurd h (by decide)
  rename_i h5
  refine ⟨⟨by omega, by omega, by omega⟩, by omega, fun c hc => ?_⟩
  have hcp : callP r.f1.length k L c = false := by
    by_cases hq : callP r.f1.length k L c = true
    · exact absurd (List.any_eq_true.mpr ⟨c, hc, hq⟩) h5
    · simpa using hq
  unfold callP at hcp
  simp only [Bool.or_eq_false_iff, decide_eq_false_iff_not] at hcp
  omega
theorem rulesP_all {k L G : Int} : ∀ {l : List S49}, rulesP k L G l = 0 → ∀ r ∈ l, ruleP r k L G = 0
  | [], _, r, hr => by cases hr
  | x :: t, h, r, hr => by
    unfold rulesP at h
    split at h
    · rename_i h1
      rcases List.mem_cons.mp hr with rfl | hr
      · exact h1
      · exact rulesP_all h r hr
    · rename_i h1
      exact absurd h h1
theorem checkP_good {l : List S49} {k L : Int} {n : Nat} (hk : 0 ≤ k) (hL : L = (n : Int)) (h : checkP l k L 100 = 0) : ∀ r ∈ l, goodR n r := by
  unfold checkP at h
  split at h
  · exact absurd h (by decide)
  split at h
  · exact absurd h (by decide)
  exact fun r hr => ruleP_good hk hL (rulesP_all h r hr)
theorem allP_good {n : Nat} : ∀ {l : List S24} {i : Nat}, allP n i l = 0 → ∀ k, k < l.length → ∀ y ∈ (l.getD k z24).f0, goodR n y
  | [], _, _, k, hk => absurd hk (Nat.not_lt_zero _)
  | x :: t, i, h, k, hk => by
    unfold allP at h
    split at h
    · rename_i h1
      cases k with
      | zero => exact checkP_good (Int.natCast_nonneg i) rfl h1
      | succ k =>
        rw [List.getD_cons_succ]
        exact allP_good h k (by simpa using hk)
    · rename_i h1
      exact absurd h h1
theorem sz24 : (Try.prog.info? 24).map (·.size) = some 1 := by kernel_rfl
set_option maxRecDepth 100000 in
set_option maxHeartbeats 16000000 in
theorem apply_all (A0 : Option Addr) (c0 : Nat) (all : List S24) (k : Int) (A2 : Option Addr) (c2 : Nat) (items : List S55) (A3 : Option Addr) (c3 : Nat) (may : List Bool) (r1 : List S55) (r2 r3 : Int) (w : World)
    (hr0 : Kd.C k24 w A0 all.length all) (hc0 : all.length ≤ c0) (hr2 : Kd.C k55 w A2 items.length items) (hc2 : items.length ≤ c2) (hr3 : Kd.C Kd.bool w A3 may.length may) (hc3 : may.length ≤ c3) (h : applyO all k items may = some (r1, r2, r3)) :
    Calls Try.prog 23 #[.slice A0 all.length c0, .int .i64 k, .slice A2 items.length c2, .slice A3 may.length c3] w fun e w' => ∃ v0_ : Value, e = .returned (.tuple #[v0_, .int .i64 r2, .int .i64 r3]) ∧ Kd.R k55 55 w' w.heap.size (fun _ => True) v0_ r1 ∧ Below w.heap.size w w' := by
  have HR0 := Aside0.mk hr0
  have HC0 := Aside0.mk hc0
  have HR2 := Aside0.mk hr2
  have HC2 := Aside0.mk hc2
  have HR3 := Aside0.mk hr3
  have HN := Aside0.mk (Kd.C_max hr0)
  have HO := Own.start w
  clear hr0 hc0 hr2 hc2 hr3 hc3
  unfold applyO at h
  by_cases k0 : k < 0
  · rw [if_pos (.inl k0)] at h
    simp only [Option.some.injEq, Prod.mk.injEq] at h
    obtain ⟨e1, e2, e3⟩ := h
    subst e1 e2 e3
    have s1 : (k < 0) = True := eq_true k0
    have s2 : decide (k < 0) = true := decide_eq_true k0
    clear k0
    go_enter Try.func23, Try.ntmps23
    go_wp2
    go_ret3
    exact ⟨_, rfl, Kd.R_nil _ _ _ _ _, HO.below⟩
  by_cases k1 : k ≥ (all.length : Int)
  · rw [if_pos (.inr k1)] at h
    simp only [Option.some.injEq, Prod.mk.injEq] at h
    obtain ⟨e1, e2, e3⟩ := h
    subst e1 e2 e3
    have s1 : (k < 0) = False := eq_false k0
    have s2 : decide (k < 0) = false := decide_eq_false k0
    have s3 : (k ≥ (all.length : Int)) = True := eq_true k1
    have s4 : decide (k ≥ (all.length : Int)) = true := decide_eq_true k1
    clear k0 k1
    go_enter Try.func23, Try.ntmps23
    go_wp2
    go_ret3
    exact ⟨_, rfl, Kd.R_nil _ _ _ _ _, HO.below⟩
  rw [if_neg (by omega)] at h
  obtain ⟨kn, rfl⟩ := Int.eq_ofNat_of_zero_le (show 0 ≤ k by omega)
  rw [Int.toNat_natCast] at h
  have HKN := Aside0.mk (show kn < all.length by omega)
  have s1 : ((kn : Int) < 0) = False := eq_false k0
  have s2 : decide ((kn : Int) < 0) = false := decide_eq_false k0
  have s3 : ((kn : Int) ≥ (all.length : Int)) = False := eq_false k1
  have s4 : decide ((kn : Int) ≥ (all.length : Int)) = false := decide_eq_false k1
  obtain ⟨ev, hev⟩ : ∃ ev, allP all.length 0 all = ev := ⟨_, rfl⟩
  rw [hev] at h
  have H := Aside0.mk h
  have HEV := Aside0.mk hev
  clear h hev k0 k1
  go_enter Try.func23, Try.ntmps23
  go_wp2
  go_loopw [26] (fun v26 w' => ∃ j : Nat, v26 = .int .i64 j ∧ Aside0 (j ≤ all.length) ∧ Aside0 (allP all.length j (all.drop j) = ev) ∧ Aside0 (Own w w' [])) (fun v26 _ => all.length - (intOf v26).toNat)
  case atStart => exact ⟨0, rfl, ⟨Nat.zero_le _⟩, ⟨by rw [List.drop_zero]; exact HEV.out⟩, ⟨HO⟩⟩
  case round =>
    clear HO
    obtain ⟨j, rfl, HK, HP, HOO⟩ := hrel
    have HO := HOO.out
    clear HOO
    by_cases hlt : j < all.length
    case pos =>
      have hst := allP_step all.length all j hlt
      rw [HP.out] at hst
      obtain ⟨ad, A1, c1, hA, x0, y0, y1⟩ := at_T24 HR0.out (j : Int) (by omega) (by omega)
      subst hA
      rw [show rd_T24 all (j : Int) = all.getD j z24 from rfl] at x0 y0 y1
      rw [Int.toNat_natCast] at x0
      replace x0 := pw_cell_below HO.below x0
      generalize all.getD j z24 = lk at *
      obtain ⟨rs⟩ := lk
      dsimp only at x0 y0 y1 hst
      have hcall := fun (W : World) (hb : Below w.heap.size w W) => check_calls A1 c1 rs (j : Int) (all.length : Int) 100 W (Kd.C_below y1 hb)
      generalize checkP rs (j : Int) (all.length : Int) 100 = cv at hst hcall
      have HCALL := Aside0.mk hcall
      have r1 : ((j : Int) < (all.length : Int)) = True := eq_true (by omega)
      have r0 : (0 ≤ (j : Int)) = True := eq_true (by omega)
      have hkb : (j : Int) + 1 ≤ 9223372036854775807 := by have := HN.out; omega
      have HKL := Aside0.mk hlt
      clear hcall y0 y1 hlt
      by_cases hcv : cv = 0
      case neg =>
        rw [if_neg hcv] at hst
        subst hst
        have hh := H.out
        rw [if_neg hcv] at hh
        simp only [Option.some.injEq, Prod.mk.injEq] at hh
        obtain ⟨e1, e2, e3⟩ := hh
        subst e1 e2 e3
        have e0 : (ev == 0) = false := beq_eq_false_iff_ne.mpr hcv
        have n0 : (ev != 0) = true := by rw [bne, e0]; rfl
        clear hcv
        go_wp2_with (first
          | ((with_reducible refine gate_dst (N := 12) rfl ?_); refine ev_box (N := 12) (cs := #[.slice none 0 0]) (t := 24) HO rfl rfl ?hr ?_; (case hr => first | (go_simp; done) | (go_simp; rfl)); intro g12 W1 HO1 hb1; clear HO hb1)
          | ((with_reducible refine gate_store (t := 24) (p := 12) rfl ?_); refine ev_store (cs' := #[.slice A1 rs.length c1]) (.agg #[.slice A1 rs.length c1]) 0 HO1 rfl rfl rfl rfl 0 rfl rfl sz24 (by simp [Value.oneCell', Value.cells]) (Nat.le_refl _) rfl ?_; intro W2 HO2; clear HO1 x0; have z0 := HO2.box_cell 0 rfl 0 rfl)
          | (go_at_call 16; go_loud (refine (HCALL.out _ HO2.below).mono ?_; rintro e_ W3 ⟨rfl, hb3⟩; have HO3 := HO2.grow hb3; clear HO2 hb3 z0)))
        go_ret3
        exact ⟨_, rfl, Kd.R_nil _ _ _ _ _, HO3.below⟩
      case pos =>
        rw [if_pos hcv] at hst
        have HST := Aside0.mk hst.symm
        have e0 : (cv == 0) = true := beq_iff_eq.mpr hcv
        have n0 : (cv != 0) = false := by rw [bne, e0]; rfl
        clear hcv hst
        go_wp2_with (first
          | ((with_reducible refine gate_dst (N := 12) rfl ?_); refine ev_box (N := 12) (cs := #[.slice none 0 0]) (t := 24) HO rfl rfl ?hr ?_; (case hr => first | (go_simp; done) | (go_simp; rfl)); intro g12 W1 HO1 hb1; clear HO hb1)
          | ((with_reducible refine gate_store (t := 24) (p := 12) rfl ?_); refine ev_store (cs' := #[.slice A1 rs.length c1]) (.agg #[.slice A1 rs.length c1]) 0 HO1 rfl rfl rfl rfl 0 rfl rfl sz24 (by simp [Value.oneCell', Value.cells]) (Nat.le_refl _) rfl ?_; intro W2 HO2; clear HO1 x0; have z0 := HO2.box_cell 0 rfl 0 rfl)
          | (go_at_call 16; go_loud (refine (HCALL.out _ HO2.below).mono ?_; rintro e_ W3 ⟨rfl, hb3⟩; have HO3 := HO2.grow hb3; clear HO2 hb3 z0)))
        have HO4 := HO3.upto 0
        go_roundw
        case rel => exact ⟨j + 1, by go_num, ⟨HKL.out⟩, HST, ⟨HO4⟩⟩
        case measure => have := HKL.out; simp [intOf]; omega
    have r1 : ¬ ((j : Int) < (all.length : Int)) := by omega
    have hev0 := HP.out
    rw [List.drop_of_length_le (by omega), allP] at hev0
    subst hev0
    have hh := H.out
    rw [if_pos rfl] at hh
    have hgood := allP_good HEV.out
    have HGOOD := Aside0.mk hgood
    clear hgood hlt
    by_cases h200 : items.length > 200
    · rw [if_pos h200] at hh
      simp only [Option.some.injEq, Prod.mk.injEq] at hh
      obtain ⟨e1, e2, e3⟩ := hh
      subst e1 e2 e3
      have t1 : ((items.length : Int) > 200) = True := eq_true (by omega)
      have t2 : decide ((items.length : Int) > 200) = true := decide_eq_true (by omega)
      clear h200
      go_wp2
      go_ret3
      exact ⟨_, rfl, Kd.R_nil _ _ _ _ _, HO.below⟩
    rw [if_neg h200] at hh
    have t1 : ((items.length : Int) > 200) = False := eq_false (by omega)
    have t2 : decide ((items.length : Int) > 200) = false := decide_eq_false (by omega)
    have HI2 := Aside0.mk (show items.length ≤ 1000000 by omega)
    obtain ⟨y, hcar, hh⟩ := Option.bind_eq_some_iff.mp hh
    obtain ⟨err, its2, wk2⟩ := y
    dsimp only at hh
    have HCAR := Aside0.mk hcar
    clear hcar h200
    by_cases her : err = 0
    case neg =>
      rw [if_neg her] at hh
      simp only [Option.some.injEq, Prod.mk.injEq] at hh
      obtain ⟨e1, e2, e3⟩ := hh
      subst e1 e2 e3
      have e0 : (err == 0) = false := beq_eq_false_iff_ne.mpr her
      have n0 : (err != 0) = true := by rw [bne, e0]; rfl
      clear her
      go_wp2_with (first
        | (go_at_call 39; go_loud (refine (cloneT_calls A2 c2 items _ (HO.old HR2.out) HC2.out HI2.out).mono ?_; rintro e_ W5 ⟨v5, rfl, hR5, hb5⟩; have HO5 := HO.called hb5 hR5; clear HO hR5 hb5; obtain ⟨A5, c5, rfl, -, -⟩ := HO5.row_at 0 rfl))
        | ((with_reducible refine gate_dst (N := 47) rfl ?_); refine ev_box (N := 47) (cs := #[.slice A0 all.length c0, .slice A5 items.length c5, .int .i64 0]) (t := 77) HO5 rfl rfl ?hr ?_; (case hr => first | (go_simp; done) | (go_simp; rfl)); intro g47 W6 HO6 hb6; clear HO5 hb6; have HO7 := (HO6.add (r := .emp) (Below.refl _ _) trivial).pick3 1 0 2 rfl rfl rfl (by decide) (by decide) (by decide); clear HO6)
        | (go_at_call 40; go_loud (refine (carry_calls (wk := 0) HO7 HR0.out HGOOD.out kn HKN.out A3 c3 may HR3.out 2000000 _ _ _ HCAR.out).mono ?_; rintro e_ W9 ⟨rfl, A9, c9, HO9⟩; clear HO7; have m1 := HO9.box_cell 0 rfl 1 rfl; have m2 := HO9.box_cell 0 rfl 2 rfl)))
      go_ret3
      exact ⟨_, rfl, Kd.R_nil _ _ _ _ _, HO9.below⟩
    rw [if_pos her] at hh
    subst her
    simp only [Option.some.injEq, Prod.mk.injEq] at hh
    obtain ⟨e1, e2, e3⟩ := hh
    subst e1 e2 e3
    go_wp2_with (first
      | (go_at_call 39; go_loud (refine (cloneT_calls A2 c2 items _ (HO.old HR2.out) HC2.out HI2.out).mono ?_; rintro e_ W5 ⟨v5, rfl, hR5, hb5⟩; have HO5 := HO.called hb5 hR5; clear HO hR5 hb5; obtain ⟨A5, c5, rfl, -, -⟩ := HO5.row_at 0 rfl))
      | ((with_reducible refine gate_dst (N := 47) rfl ?_); refine ev_box (N := 47) (cs := #[.slice A0 all.length c0, .slice A5 items.length c5, .int .i64 0]) (t := 77) HO5 rfl rfl ?hr ?_; (case hr => first | (go_simp; done) | (go_simp; rfl)); intro g47 W6 HO6 hb6; clear HO5 hb6; have HO7 := (HO6.add (r := .emp) (Below.refl _ _) trivial).pick3 1 0 2 rfl rfl rfl (by decide) (by decide) (by decide); clear HO6)
      | (go_at_call 40; go_loud (refine (carry_calls (wk := 0) HO7 HR0.out HGOOD.out kn HKN.out A3 c3 may HR3.out 2000000 _ _ _ HCAR.out).mono ?_; rintro e_ W9 ⟨rfl, A9, c9, HO9⟩; clear HO7; have m1 := HO9.box_cell 0 rfl 1 rfl; have m2 := HO9.box_cell 0 rfl 2 rfl)))
    go_region_law (fail)
    all_goals
      have HO10 := HO9.drew
      try go_wp2
      go_ret3
      exact ⟨_, rfl, HO10.row_R 1 rfl, HO10.below⟩
end Go.Proofs.Ytlgkeaildncojaa.Q

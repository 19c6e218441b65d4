/- AttachShift's walk. -/
import Derived.Test.YtnnkbcgoockniaaS
import Derived.Test.YtnnkbcgoockniaaM
import Derived.Deep.RegionHeld3
namespace Go.Proofs.Ytnnkbcgoockniaa.Q
open Go.RowKit Go.Shelf Go.Proofs.YtnnkbcgoockniaaW.PrintWords Go.Proofs.YtnnkbcgoockniaaW.PrintLast Go.Proofs.YtnnkbcgoockniaaW.PrintMore
set_option linter.unusedSimpArgs false
set_option linter.unusedVariables false

theorem u8_wf_ {a : Int} (h : (Lit.int .u8 a).wf = true) : 0 ≤ a ∧ a ≤ 255 := by
  simpa [Lit.wf, IntKind.min, IntKind.max, IntKind.signed, IntKind.bits] using h
theorem modK (p : Int) : ∃ x, abugidaref01_Mod.f p 1000 = some x ∧ 0 ≤ x ∧ x < 1000 := by
  have h1 := Int.tmod_lt_of_pos p (show (0 : Int) < 1000 by omega)
  have h2 : -1000 < Int.tmod p 1000 := by
    have := Int.neg_tmod p 1000
    have h3 := Int.tmod_lt_of_pos (-p) (show (0 : Int) < 1000 by omega)
    omega
  have hw : wrap64 (Int.tmod p 1000 + 1000) = Int.tmod p 1000 + 1000 := hw64 (by omega) (by omega)
  refine ⟨Int.tmod (Int.tmod p 1000 + 1000) 1000, ?_, Int.tmod_nonneg _ (by omega), Int.tmod_lt_of_pos _ (by omega)⟩
  rw [abugidaref01_Mod.f, if_neg (by decide), hw]
set_option maxRecDepth 100000 in
set_option maxHeartbeats 8000000 in
theorem attachShift_calls (A : Option Addr) (c : Nat) (l : List (List Int)) (b p0 p1 : Int) (w : World) (hr : Kd.C (Kd.slice 3 (Kd.int .i64)) w A l.length l) (hc : l.length ≤ c) (hb0 : 0 ≤ b) (hb1 : b ≤ 255) :
    Calls Try.prog 8 #[.slice A l.length c, .int .u8 b, .agg #[.int .i64 p0, .int .i64 p1]] w fun e w' => e = .returned (.bool true) ∧ Below w.heap.size w w' := by
  have HR := Aside0.mk hr
  have HC := Aside0.mk hc
  have HL := Aside0.mk (grid_len hr rfl)
  obtain ⟨ks, hs⟩ := saneK
  have HS := Aside0.mk hs
  obtain ⟨x, hx, hx0, hx1⟩ := modK p0
  obtain ⟨y, hy, hy0, hy1⟩ := modK p1
  have HX := Aside0.mk hx
  have HY := Aside0.mk hy
  obtain ⟨d, hd⟩ : ∃ d, madeF l = d := ⟨_, rfl⟩
  obtain ⟨cc, hcc⟩ : ∃ cc, 1 + b % 3 = cc := ⟨_, rfl⟩
  have HCC := Aside0.mk hcc
  have hcb : 1 ≤ cc ∧ cc ≤ 3 := by
    omega
  have HPE := Aside0.mk (show placesF (d.map (she cc x y)) = placesF d by rw [← hd]; exact placesF_she (by omega) ⟨hx0, hx1⟩ ⟨hy0, hy1⟩ l)
  have HOK := Aside0.mk (show ∀ e ∈ d, (∀ a ∈ e.f1, okB a) ∧ okB e.f2 by rw [← hd]; exact made_okB l)
  obtain ⟨km, hm⟩ := sameK (placesF d) (by have := placesF_length d; omega)
  have HKM := Aside0.mk hm
  have HM := Aside0.mk hd
  have HLE := Aside0.mk (show d.length ≤ 12 by rw [← hd]; exact madeF_len l)
  have hw : IntKind.i64.wrap b = b := IntWalk.i64_in b (by omega)
  have HXY := Aside0.mk (show (0 ≤ x ∧ x < 1000) ∧ (0 ≤ y ∧ y < 1000) from ⟨⟨hx0, hx1⟩, hy0, hy1⟩)
  have HCB := Aside0.mk hcb
  have hix0 : ∀ (a_ : Addr) (w_ : World), (Instr.indexAt 37 (.pointer (some a_)) (.int .i64 0)).run Try.prog w_ = .ok (.pointer (some a_)) w_ := fun a_ w_ => by kernel_rfl
  have hix1 : ∀ (b_ o_ : Nat) (w_ : World), (Instr.indexAt 37 (.pointer (some ⟨b_, o_, none⟩)) (.int .i64 1)).run Try.prog w_ = .ok (.pointer (some ⟨b_, o_ + 1, none⟩)) w_ := fun b_ o_ w_ => by kernel_rfl
  have HO := Own.start w
  clear hr hc hs hd hx hy hx0 hx1 hy0 hy1 hcc hm hcb
  go_enter Try.func8, Try.ntmps8
  go_upto_region 3 with (first
    | ((with_reducible refine gate_dst (N := 5) rfl ?_); refine ev_box (N := 5) (cs := #[.int .i64 p0, .int .i64 p1]) (t := 37) HO rfl rfl ?hr ?_; (case hr => first | (go_simp; done) | (go_simp; rfl)); intro g5 W1 HO1 hb1; clear HO hb1)
    | (go_at_call 10; (with_reducible refine (abugidalaw19_sanity.calls ks true _ HS.out).mono ?_); rintro e W2 ⟨rfl, hb2⟩; have HO2 := HO1.grow hb2; clear HO1 hb2; have z0 := HO2.box_cell 0 rfl 0 rfl; have z1 := HO2.box_cell 0 rfl 1 rfl))
  go_region_held3 (fun w' => w'.cell? ⟨g5, 0, none⟩ = some (.int .i64 p0) ∧ w'.cell? ⟨g5, 1, none⟩ = some (.int .i64 p1)) (go_keep) (first
    | (go_at_call 15; (with_reducible refine (abugidaref01_Mod.calls p0 1000 x _ HX.out).mono ?_); rintro e w' ⟨rfl, ⟨nd, rfl⟩⟩; clear HX)
    | (go_at_call 15; (with_reducible refine (abugidaref01_Mod.calls p1 1000 y _ HY.out).mono ?_); rintro e w' ⟨rfl, ⟨nd2, rfl⟩⟩; clear HY))
  have HO3 := HO2.drewN (1 + nd + nd2)
  clear HO2 z0 z1 hix0 hix1
  rw [HCC.out]
  go_wp2_with (first
    | (go_at_call 11; (with_reducible refine (made_calls A c l _ (HO3.old HR.out) HC.out HL.out).mono ?_); rintro e W4 ⟨v4, rfl, hR4, hb4⟩; rw [HM.out] at hR4; have HO4 := HO3.called hb4 hR4; clear HO3 hR4 hb4; obtain ⟨A2, c2, rfl, hl2, -⟩ := HO4.row_at 1 rfl; have HL2 := Aside0.mk hl2; clear hl2)
    | (go_at_call 11; (with_reducible refine (mades_calls A c l _ (HO4.old HR.out) HC.out HL.out).mono ?_); rintro e W5 ⟨v5, rfl, hR5, hb5⟩; rw [HM.out] at hR5; have HO5 := HO4.scalled hb5 hR5; clear HO4 hR5 hb5; obtain ⟨A3, c3, rfl, hl3, -⟩ := HO5.srow_at 2 rfl; have HL3 := Aside0.mk hl3; clear hl3))
  go_loopw [32] (fun v32 w' => ∃ (k : Nat) (ys : List S35), v32 = .int .i64 k ∧ Aside0 (k ≤ d.length) ∧ Aside0 (ys = (d.take k).map (she cc x y) ++ d.drop k) ∧ Aside0 (Own w w' [.box g5 37 #[.int .i64 p0, .int .i64 p1], .row k35 35 w.heap.size (.slice A2 d.length c2) d, .srow k35 35 w.heap.size (.slice A3 d.length c3) ys])) (fun v32 _ => d.length - (intOf v32).toNat)
  case atStart => exact ⟨0, d, rfl, ⟨Nat.zero_le _⟩, ⟨rfl⟩, ⟨HO5⟩⟩
  case round =>
    clear HO5
    obtain ⟨k, ys, rfl, HK, HYS, HOO⟩ := hrel
    have HO := HOO.out
    clear HOO
    have HYL := Aside0.mk (show ys.length = d.length by rw [HYS.out, List.length_append, List.length_map, List.length_take, List.length_drop]; have := HK.out; omega)
    by_cases hlt : k < d.length
    case neg =>
      have hkl : k = d.length := by have := HK.out; omega
      have q1 : ¬ ((k : Int) < (d.length : Int)) := by omega
      have HYE := Aside0.mk (show placesF ys = placesF d by rw [HYS.out, hkl, List.take_of_length_le (Nat.le_refl _), List.drop_of_length_le (Nat.le_refl _), List.append_nil, HPE.out])
      obtain ⟨ps, hps⟩ : ∃ ps, placesF d = ps := ⟨_, rfl⟩
      have HP := Aside0.mk hps
      rw [hps] at HYE HKM
      have HC2 := Aside0.mk (HO.row_sl 1 rfl).2.2
      have HC3 := Aside0.mk (HO.srow_sl 2 rfl).2.2
      clear hlt hkl hps
      go_wp2_with (first
        | (go_at_call 13; (with_reducible refine (own13 rfl HC2.out HL2.out HP.out _ (Below.refl _ _)).mono ?_); rintro e W8 ⟨v8, rfl, hR8, hb8⟩; have HO8 := HO.called hb8 hR8; clear HO hR8 hb8)
        | (go_at_call 13; (with_reducible refine (own13 HYL.out (HO8.srow_sl 2 rfl).2.2 HL3.out HYE.out _ (Below.refl _ _)).mono ?_); rintro e W9 ⟨v9, rfl, hR9, hb9⟩; have HO9 := HO8.called hb9 hR9; clear HO8 hR9 hb9; obtain ⟨A8, c8, rfl, hl8, hC8⟩ := HO9.row_at 3 rfl; obtain ⟨A9, c9, rfl, hl9, hC9⟩ := HO9.row_at 4 rfl)
        | (go_at_call 12; (with_reducible refine (abugidaref19_Same.calls km A8 c8 _ A9 c9 _ true _ hC8 hl8 hC9 hl9 HKM.out).mono ?_); rintro e W10 ⟨rfl, hdb⟩; have HO10 := HO9.grow hdb.below; clear HO9 hdb hC8 hC9 hl8 hl9))
      go_ret
      exact ⟨rfl, HO10.below⟩
    case pos =>
      obtain ⟨e, he⟩ : ∃ e, d.getD k z35 = e := ⟨_, rfl⟩
      obtain ⟨pre, hpre⟩ : ∃ pre, (d.take k).map (she cc x y) = pre := ⟨_, rfl⟩
      obtain ⟨post, hpost⟩ : ∃ post, d.drop (k + 1) = post := ⟨_, rfl⟩
      have hge : d[k]'hlt = e := by rw [← he, List.getD_eq_getElem?_getD, List.getElem?_eq_getElem hlt]; rfl
      have hys : ys = pre ++ e :: post := by rw [HYS.out, hpre, List.drop_eq_getElem_cons hlt, hge, hpost]
      have HPL := Aside0.mk (show pre.length = k by rw [← hpre, List.length_map, List.length_take]; omega)
      have HNX := Aside0.mk (show pre ++ she cc x y e :: post = (d.take (k + 1)).map (she cc x y) ++ d.drop (k + 1) by
        rw [List.take_succ_eq_append_getElem hlt, List.map_append, hge, hpre, hpost, List.append_assoc]
        rfl)
      have HE := Aside0.mk (HOK.out e (by rw [← hge]; exact List.getElem_mem _))
      have HKL := Aside0.mk hlt
      subst hys
      obtain ⟨ad, hA3, -⟩ := (HO.srow_sl 2 rfl).2.2.2.2 (by have := HYL.out; omega)
      subst hA3
      have hel : e.f1.length ≤ 9223372036854775807 := by
        obtain ⟨A1, c1, -, -, -, -, -, hC1⟩ := cells35 (HO.srow_sl 2 rfl).2.2 k (by have := HYL.out; omega) e (get_mid _ _ _ _ _ HPL.out)
        exact Kd.C_max hC1
      have hx01 : 0 ≤ x ∧ x < 1000 := HXY.out.1
      have hy01 : 0 ≤ y ∧ y < 1000 := HXY.out.2
      have hn12 : d.length ≤ 12 := HLE.out
      have pk : (0 ≤ (k : Int)) = True := eq_true (by omega)
      have q1 : ((k : Int) < (d.length : Int)) = True := eq_true (by omega)
      have hkb : (k : Int) + 1 ≤ 200 := by omega
      have HHE := Aside0.mk (show d.length = (pre ++ e :: post).length from HYL.out.symm)
      clear he hpre hpost hge HYS HK hlt
      obtain ⟨A1, c1, x1, x2, x3, x4, -, -⟩ := cells35 (HO.srow_sl 2 rfl).2.2 k (by have := HYL.out; have := HKL.out; omega) e (get_mid _ _ _ _ _ HPL.out)
      by_cases hcl : e.f2.f0 = cc
      case pos =>
        have qc : (e.f2.f0 == cc) = true := beq_iff_eq.mpr hcl
        have HSE := Aside0.mk (show she cc x y e = (⟨e.f0, e.f1.map (sha cc x y), ⟨e.f2.f0, e.f2.f1 + x, e.f2.f2 + y⟩, e.f3⟩ : S35) by unfold she; rw [show sha cc x y e.f2 = ⟨e.f2.f0, e.f2.f1 + x, e.f2.f2 + y⟩ from if_pos hcl])
        have hbe : (-20 ≤ e.f2.f1 ∧ e.f2.f1 ≤ 40) ∧ (-20 ≤ e.f2.f2 ∧ e.f2.f2 ≤ 40) := HE.out.2
        have hw1 : IntKind.i64.wrap (e.f2.f1 + x) = e.f2.f1 + x := IntWalk.i64_in _ (by omega)
        have hw2 : IntKind.i64.wrap (e.f2.f2 + y) = e.f2.f2 + y := IntWalk.i64_in _ (by omega)
        go_upto_region 11 with (first
          | ((with_reducible refine gate_store (t := 3) (p := 53) rfl ?_); refine ev_storeO 2 HO rfl rfl rfl 3 (.tmp 53) (.tmp 50) rfl k 3 z35 (⟨e.f0, e.f1, ⟨e.f2.f0, e.f2.f1 + x, e.f2.f2⟩, e.f3⟩ : S35) (.int .i64 (e.f2.f1 + x)) [.int .i64 (e.f2.f1 + x)] rfl rfl rfl (by kernel_rfl) (by simp [Value.oneCell']) HKL.out (show 3 + 1 ≤ 6 by decide) (fun ok c h => by rw [get_mid _ _ _ _ _ HPL.out] at h; exact k35_setX h _) ?_; intro W6 HO6; rw [set_mid _ _ _ _ _ HPL.out] at HO6; clear HO x1 x2 x3 x4; obtain ⟨A1, c1, x1, x2, x3, x4, -, -⟩ := cells35 (HO6.srow_sl 2 rfl).2.2 k (by have h := (HHE.out).symm; have h2 := HKL.out; rw [List.length_append, List.length_cons] at h ⊢; omega) (⟨e.f0, e.f1, ⟨e.f2.f0, e.f2.f1 + x, e.f2.f2⟩, e.f3⟩ : S35) (get_mid _ _ _ _ _ HPL.out))
          | ((with_reducible refine gate_store (t := 3) (p := 64) rfl ?_); refine ev_storeO 2 HO6 rfl rfl rfl 3 (.tmp 64) (.tmp 61) rfl k 4 z35 (⟨e.f0, e.f1, ⟨e.f2.f0, e.f2.f1 + x, e.f2.f2 + y⟩, e.f3⟩ : S35) (.int .i64 (e.f2.f2 + y)) [.int .i64 (e.f2.f2 + y)] rfl rfl rfl (by kernel_rfl) (by simp [Value.oneCell']) HKL.out (show 4 + 1 ≤ 6 by decide) (fun ok c h => by rw [get_mid _ _ _ _ _ HPL.out] at h; exact k35_setY h _) ?_; intro W7 HO7; rw [set_mid _ _ _ _ _ HPL.out] at HO7; clear HO6 x1 x2 x3 x4; obtain ⟨A1, c1, x1, x2, x3, x4, -, -⟩ := cells35 (HO7.srow_sl 2 rfl).2.2 k (by have h := (HHE.out).symm; have h2 := HKL.out; rw [List.length_append, List.length_cons] at h ⊢; omega) (⟨e.f0, e.f1, ⟨e.f2.f0, e.f2.f1 + x, e.f2.f2 + y⟩, e.f3⟩ : S35) (get_mid _ _ _ _ _ HPL.out)))
        clear hw1 hw2 hbe qc hcl
        go_wp2
        go_loopw [71] (fun v71 w' => ∃ (i : Nat), v71 = .int .i64 i ∧ Aside0 (i ≤ e.f1.length) ∧ Aside0 (Own w w' [.box g5 37 #[.int .i64 p0, .int .i64 p1], .row k35 35 w.heap.size (.slice A2 d.length c2) d, .srow k35 35 w.heap.size (.slice (some ad) d.length c3) (pre ++ (⟨e.f0, (e.f1.take i).map (sha cc x y) ++ e.f1.drop i, ⟨e.f2.f0, e.f2.f1 + x, e.f2.f2 + y⟩, e.f3⟩ : S35) :: post)])) (fun v71 _ => e.f1.length - (intOf v71).toNat)
        case atStart => exact ⟨0, rfl, ⟨Nat.zero_le _⟩, ⟨HO7⟩⟩
        case round =>
          clear HO7 x1 x2 x3 x4
          obtain ⟨i, rfl, HI, HOO⟩ := hrel
          have HO := HOO.out
          clear HOO
          by_cases hi : i < e.f1.length
          case neg =>
            have hie : i = e.f1.length := by have := HI.out; omega
            have qi : ¬ ((i : Int) < (e.f1.length : Int)) := by omega
            rw [hie, List.take_of_length_le (Nat.le_refl _), List.drop_of_length_le (Nat.le_refl _), List.append_nil, ← HSE.out] at HO
            clear hi hie
            go_wp2
            go_roundw
            case rel => exact ⟨k + 1, _, by go_num, ⟨HKL.out⟩, ⟨HNX.out⟩, ⟨HO⟩⟩
            case measure => have := HKL.out; simp [intOf]; omega
          case pos =>
            obtain ⟨a, ha⟩ : ∃ a, e.f1.getD i z33 = a := ⟨_, rfl⟩
            obtain ⟨pre2, hpre2⟩ : ∃ pre, (e.f1.take i).map (sha cc x y) = pre := ⟨_, rfl⟩
            obtain ⟨post2, hpost2⟩ : ∃ post, e.f1.drop (i + 1) = post := ⟨_, rfl⟩
            have hga : e.f1[i]'hi = a := by rw [← ha, List.getD_eq_getElem?_getD, List.getElem?_eq_getElem hi]; rfl
            have hzs : (e.f1.take i).map (sha cc x y) ++ e.f1.drop i = pre2 ++ a :: post2 := by rw [hpre2, List.drop_eq_getElem_cons hi, hga, hpost2]
            have HPL2 := Aside0.mk (show pre2.length = i by rw [← hpre2, List.length_map, List.length_take]; omega)
            have HNX2 := Aside0.mk (show (e.f1.take (i + 1)).map (sha cc x y) ++ e.f1.drop (i + 1) = pre2 ++ sha cc x y a :: post2 by
              rw [List.take_succ_eq_append_getElem hi, List.map_append, hga, hpre2, hpost2, List.append_assoc]
              rfl)
            have HZL := Aside0.mk (show (pre2 ++ a :: post2).length = e.f1.length by rw [← hzs, List.length_append, List.length_map, List.length_take, List.length_drop]; omega)
            have hba : (-20 ≤ a.f1 ∧ a.f1 ≤ 40) ∧ (-20 ≤ a.f2 ∧ a.f2 ≤ 40) := HE.out.1 a (by rw [← hga]; exact List.getElem_mem _)
            have HIL := Aside0.mk hi
            rw [hzs] at HO
            have p2 : (0 ≤ (i : Int)) = True := eq_true (by omega)
            have q2 : ((i : Int) < (e.f1.length : Int)) = True := eq_true (by omega)
            clear ha hpre2 hpost2 hga hzs
            obtain ⟨A1, c1, x1, x2, x3, x4, -, hC1⟩ := cells35 (HO.srow_sl 2 rfl).2.2 k (by have h := (HHE.out).symm; have h2 := HKL.out; rw [List.length_append, List.length_cons] at h ⊢; omega) (⟨e.f0, pre2 ++ a :: post2, ⟨e.f2.f0, e.f2.f1 + x, e.f2.f2 + y⟩, e.f3⟩ : S35) (get_mid _ _ _ _ _ HPL.out); rw [show (⟨e.f0, pre2 ++ a :: post2, ⟨e.f2.f0, e.f2.f1 + x, e.f2.f2 + y⟩, e.f3⟩ : S35).f1.length = e.f1.length from (by have h := HZL.out; rw [List.length_append, List.length_cons] at h; show (pre2 ++ a :: post2).length = _; rw [List.length_append, List.length_cons]; exact h)] at x1 hC1; obtain ⟨ad2, rfl, u0, u1, u2⟩ := cells33 hC1 i HIL.out a (get_mid _ _ _ _ _ HPL2.out); clear hC1
            by_cases hcl : a.f0 = cc
            case pos =>
              have qc : (a.f0 == cc) = true := beq_iff_eq.mpr hcl
              have HSA := Aside0.mk (show sha cc x y a = ⟨a.f0, a.f1 + x, a.f2 + y⟩ from if_pos hcl)
              have hw1 : IntKind.i64.wrap (a.f1 + x) = a.f1 + x := IntWalk.i64_in _ (by omega)
              have hw2 : IntKind.i64.wrap (a.f2 + y) = a.f2 + y := IntWalk.i64_in _ (by omega)
              go_wp2_with (first
                | ((with_reducible refine gate_store (t := 3) (p := 97) rfl ?_); refine ev_storeI (d := k35) (d2 := k33) (e2 := 33) (ys := (pre2 ++ a :: post2)) 2 HO rfl rfl rfl 3 (.tmp 97) (.tmp 95) rfl k 1 z35 (⟨e.f0, ((pre2 ++ a :: post2).set i (⟨a.f0, a.f1 + x, a.f2⟩ : S33)), ⟨e.f2.f0, e.f2.f1 + x, e.f2.f2 + y⟩, e.f3⟩ : S35) HKL.out x1 (fun ok c h => by rw [get_mid _ _ _ _ _ HPL.out] at h; have h2 := k35_rows h; exact h2) i 1 z33 (⟨a.f0, a.f1 + x, a.f2⟩ : S33) (.int .i64 (a.f1 + x)) [.int .i64 (a.f1 + x)] rfl rfl rfl (by kernel_rfl) (by simp [Value.oneCell']) HIL.out (show 1 + 1 ≤ 3 by decide) (fun ok c h => by rw [get_mid _ _ _ _ _ HPL2.out] at h; exact k33_setX h _) (fun ok c v W' h hv hR hg => by rw [get_mid _ _ _ _ _ HPL.out] at h; have h2 := k35_put h hv hR hg; exact h2) ?_; intro W8 HO8; rw [set_mid _ _ _ _ _ HPL.out, set_mid _ _ _ _ _ HPL2.out] at HO8; clear HO x1 x2 x3 x4 u0 u1 u2; obtain ⟨A1, c1, x1, x2, x3, x4, -, hC1⟩ := cells35 (HO8.srow_sl 2 rfl).2.2 k (by have h := (HHE.out).symm; have h2 := HKL.out; rw [List.length_append, List.length_cons] at h ⊢; omega) (⟨e.f0, pre2 ++ (⟨a.f0, a.f1 + x, a.f2⟩ : S33) :: post2, ⟨e.f2.f0, e.f2.f1 + x, e.f2.f2 + y⟩, e.f3⟩ : S35) (get_mid _ _ _ _ _ HPL.out); rw [show (⟨e.f0, pre2 ++ (⟨a.f0, a.f1 + x, a.f2⟩ : S33) :: post2, ⟨e.f2.f0, e.f2.f1 + x, e.f2.f2 + y⟩, e.f3⟩ : S35).f1.length = e.f1.length from (by have h := HZL.out; rw [List.length_append, List.length_cons] at h; show (pre2 ++ (⟨a.f0, a.f1 + x, a.f2⟩ : S33) :: post2).length = _; rw [List.length_append, List.length_cons]; exact h)] at x1 hC1; obtain ⟨ad2, rfl, u0, u1, u2⟩ := cells33 hC1 i HIL.out (⟨a.f0, a.f1 + x, a.f2⟩ : S33) (get_mid _ _ _ _ _ HPL2.out); clear hC1)
                | ((with_reducible refine gate_store (t := 3) (p := 110) rfl ?_); refine ev_storeI (d := k35) (d2 := k33) (e2 := 33) (ys := (pre2 ++ (⟨a.f0, a.f1 + x, a.f2⟩ : S33) :: post2)) 2 HO8 rfl rfl rfl 3 (.tmp 110) (.tmp 108) rfl k 1 z35 (⟨e.f0, ((pre2 ++ (⟨a.f0, a.f1 + x, a.f2⟩ : S33) :: post2).set i (⟨a.f0, a.f1 + x, a.f2 + y⟩ : S33)), ⟨e.f2.f0, e.f2.f1 + x, e.f2.f2 + y⟩, e.f3⟩ : S35) HKL.out x1 (fun ok c h => by rw [get_mid _ _ _ _ _ HPL.out] at h; have h2 := k35_rows h; exact h2) i 2 z33 (⟨a.f0, a.f1 + x, a.f2 + y⟩ : S33) (.int .i64 (a.f2 + y)) [.int .i64 (a.f2 + y)] rfl rfl rfl (by kernel_rfl) (by simp [Value.oneCell']) HIL.out (show 2 + 1 ≤ 3 by decide) (fun ok c h => by rw [get_mid _ _ _ _ _ HPL2.out] at h; exact k33_setY h _) (fun ok c v W' h hv hR hg => by rw [get_mid _ _ _ _ _ HPL.out] at h; have h2 := k35_put h hv hR hg; exact h2) ?_; intro W9 HO9; rw [set_mid _ _ _ _ _ HPL.out, set_mid _ _ _ _ _ HPL2.out] at HO9; clear HO8 x1 x2 x3 x4 u0 u1 u2))
              go_roundw
              case rel => exact ⟨i + 1, by go_num, ⟨HIL.out⟩, ⟨by rw [HNX2.out, HSA.out]; exact HO9⟩⟩
              case measure => have := HIL.out; simp [intOf]; omega
            case neg =>
              have qc : (a.f0 == cc) = false := beq_eq_false_iff_ne.mpr hcl
              have HSA := Aside0.mk (show sha cc x y a = a from if_neg hcl)
              go_wp2
              go_roundw
              case rel => exact ⟨i + 1, by go_num, ⟨HIL.out⟩, ⟨by rw [HNX2.out, HSA.out]; exact HO⟩⟩
              case measure => have := HIL.out; simp [intOf]; omega
      case neg =>
        have qc : (e.f2.f0 == cc) = false := beq_eq_false_iff_ne.mpr hcl
        have HSE := Aside0.mk (show she cc x y e = (⟨e.f0, e.f1.map (sha cc x y), e.f2, e.f3⟩ : S35) by unfold she; rw [show sha cc x y e.f2 = e.f2 from if_neg hcl])
        go_upto_region 11 with fail
        have HO7 := HO
        clear HO qc hcl
        go_wp2
        go_loopw [71] (fun v71 w' => ∃ (i : Nat), v71 = .int .i64 i ∧ Aside0 (i ≤ e.f1.length) ∧ Aside0 (Own w w' [.box g5 37 #[.int .i64 p0, .int .i64 p1], .row k35 35 w.heap.size (.slice A2 d.length c2) d, .srow k35 35 w.heap.size (.slice (some ad) d.length c3) (pre ++ (⟨e.f0, (e.f1.take i).map (sha cc x y) ++ e.f1.drop i, e.f2, e.f3⟩ : S35) :: post)])) (fun v71 _ => e.f1.length - (intOf v71).toNat)
        case atStart => exact ⟨0, rfl, ⟨Nat.zero_le _⟩, ⟨HO7⟩⟩
        case round =>
          clear HO7 x1 x2 x3 x4
          obtain ⟨i, rfl, HI, HOO⟩ := hrel
          have HO := HOO.out
          clear HOO
          by_cases hi : i < e.f1.length
          case neg =>
            have hie : i = e.f1.length := by have := HI.out; omega
            have qi : ¬ ((i : Int) < (e.f1.length : Int)) := by omega
            rw [hie, List.take_of_length_le (Nat.le_refl _), List.drop_of_length_le (Nat.le_refl _), List.append_nil, ← HSE.out] at HO
            clear hi hie
            go_wp2
            go_roundw
            case rel => exact ⟨k + 1, _, by go_num, ⟨HKL.out⟩, ⟨HNX.out⟩, ⟨HO⟩⟩
            case measure => have := HKL.out; simp [intOf]; omega
          case pos =>
            obtain ⟨a, ha⟩ : ∃ a, e.f1.getD i z33 = a := ⟨_, rfl⟩
            obtain ⟨pre2, hpre2⟩ : ∃ pre, (e.f1.take i).map (sha cc x y) = pre := ⟨_, rfl⟩
            obtain ⟨post2, hpost2⟩ : ∃ post, e.f1.drop (i + 1) = post := ⟨_, rfl⟩
            have hga : e.f1[i]'hi = a := by rw [← ha, List.getD_eq_getElem?_getD, List.getElem?_eq_getElem hi]; rfl
            have hzs : (e.f1.take i).map (sha cc x y) ++ e.f1.drop i = pre2 ++ a :: post2 := by rw [hpre2, List.drop_eq_getElem_cons hi, hga, hpost2]
            have HPL2 := Aside0.mk (show pre2.length = i by rw [← hpre2, List.length_map, List.length_take]; omega)
            have HNX2 := Aside0.mk (show (e.f1.take (i + 1)).map (sha cc x y) ++ e.f1.drop (i + 1) = pre2 ++ sha cc x y a :: post2 by
              rw [List.take_succ_eq_append_getElem hi, List.map_append, hga, hpre2, hpost2, List.append_assoc]
              rfl)
            have HZL := Aside0.mk (show (pre2 ++ a :: post2).length = e.f1.length by rw [← hzs, List.length_append, List.length_map, List.length_take, List.length_drop]; omega)
            have hba : (-20 ≤ a.f1 ∧ a.f1 ≤ 40) ∧ (-20 ≤ a.f2 ∧ a.f2 ≤ 40) := HE.out.1 a (by rw [← hga]; exact List.getElem_mem _)
            have HIL := Aside0.mk hi
            rw [hzs] at HO
            have p2 : (0 ≤ (i : Int)) = True := eq_true (by omega)
            have q2 : ((i : Int) < (e.f1.length : Int)) = True := eq_true (by omega)
            clear ha hpre2 hpost2 hga hzs
            obtain ⟨A1, c1, x1, x2, x3, x4, -, hC1⟩ := cells35 (HO.srow_sl 2 rfl).2.2 k (by have h := (HHE.out).symm; have h2 := HKL.out; rw [List.length_append, List.length_cons] at h ⊢; omega) (⟨e.f0, pre2 ++ a :: post2, e.f2, e.f3⟩ : S35) (get_mid _ _ _ _ _ HPL.out); rw [show (⟨e.f0, pre2 ++ a :: post2, e.f2, e.f3⟩ : S35).f1.length = e.f1.length from (by have h := HZL.out; rw [List.length_append, List.length_cons] at h; show (pre2 ++ a :: post2).length = _; rw [List.length_append, List.length_cons]; exact h)] at x1 hC1; obtain ⟨ad2, rfl, u0, u1, u2⟩ := cells33 hC1 i HIL.out a (get_mid _ _ _ _ _ HPL2.out); clear hC1
            by_cases hcl : a.f0 = cc
            case pos =>
              have qc : (a.f0 == cc) = true := beq_iff_eq.mpr hcl
              have HSA := Aside0.mk (show sha cc x y a = ⟨a.f0, a.f1 + x, a.f2 + y⟩ from if_pos hcl)
              have hw1 : IntKind.i64.wrap (a.f1 + x) = a.f1 + x := IntWalk.i64_in _ (by omega)
              have hw2 : IntKind.i64.wrap (a.f2 + y) = a.f2 + y := IntWalk.i64_in _ (by omega)
              go_wp2_with (first
                | ((with_reducible refine gate_store (t := 3) (p := 97) rfl ?_); refine ev_storeI (d := k35) (d2 := k33) (e2 := 33) (ys := (pre2 ++ a :: post2)) 2 HO rfl rfl rfl 3 (.tmp 97) (.tmp 95) rfl k 1 z35 (⟨e.f0, ((pre2 ++ a :: post2).set i (⟨a.f0, a.f1 + x, a.f2⟩ : S33)), e.f2, e.f3⟩ : S35) HKL.out x1 (fun ok c h => by rw [get_mid _ _ _ _ _ HPL.out] at h; have h2 := k35_rows h; exact h2) i 1 z33 (⟨a.f0, a.f1 + x, a.f2⟩ : S33) (.int .i64 (a.f1 + x)) [.int .i64 (a.f1 + x)] rfl rfl rfl (by kernel_rfl) (by simp [Value.oneCell']) HIL.out (show 1 + 1 ≤ 3 by decide) (fun ok c h => by rw [get_mid _ _ _ _ _ HPL2.out] at h; exact k33_setX h _) (fun ok c v W' h hv hR hg => by rw [get_mid _ _ _ _ _ HPL.out] at h; have h2 := k35_put h hv hR hg; exact h2) ?_; intro W8 HO8; rw [set_mid _ _ _ _ _ HPL.out, set_mid _ _ _ _ _ HPL2.out] at HO8; clear HO x1 x2 x3 x4 u0 u1 u2; obtain ⟨A1, c1, x1, x2, x3, x4, -, hC1⟩ := cells35 (HO8.srow_sl 2 rfl).2.2 k (by have h := (HHE.out).symm; have h2 := HKL.out; rw [List.length_append, List.length_cons] at h ⊢; omega) (⟨e.f0, pre2 ++ (⟨a.f0, a.f1 + x, a.f2⟩ : S33) :: post2, e.f2, e.f3⟩ : S35) (get_mid _ _ _ _ _ HPL.out); rw [show (⟨e.f0, pre2 ++ (⟨a.f0, a.f1 + x, a.f2⟩ : S33) :: post2, e.f2, e.f3⟩ : S35).f1.length = e.f1.length from (by have h := HZL.out; rw [List.length_append, List.length_cons] at h; show (pre2 ++ (⟨a.f0, a.f1 + x, a.f2⟩ : S33) :: post2).length = _; rw [List.length_append, List.length_cons]; exact h)] at x1 hC1; obtain ⟨ad2, rfl, u0, u1, u2⟩ := cells33 hC1 i HIL.out (⟨a.f0, a.f1 + x, a.f2⟩ : S33) (get_mid _ _ _ _ _ HPL2.out); clear hC1)
                | ((with_reducible refine gate_store (t := 3) (p := 110) rfl ?_); refine ev_storeI (d := k35) (d2 := k33) (e2 := 33) (ys := (pre2 ++ (⟨a.f0, a.f1 + x, a.f2⟩ : S33) :: post2)) 2 HO8 rfl rfl rfl 3 (.tmp 110) (.tmp 108) rfl k 1 z35 (⟨e.f0, ((pre2 ++ (⟨a.f0, a.f1 + x, a.f2⟩ : S33) :: post2).set i (⟨a.f0, a.f1 + x, a.f2 + y⟩ : S33)), e.f2, e.f3⟩ : S35) HKL.out x1 (fun ok c h => by rw [get_mid _ _ _ _ _ HPL.out] at h; have h2 := k35_rows h; exact h2) i 2 z33 (⟨a.f0, a.f1 + x, a.f2 + y⟩ : S33) (.int .i64 (a.f2 + y)) [.int .i64 (a.f2 + y)] rfl rfl rfl (by kernel_rfl) (by simp [Value.oneCell']) HIL.out (show 2 + 1 ≤ 3 by decide) (fun ok c h => by rw [get_mid _ _ _ _ _ HPL2.out] at h; exact k33_setY h _) (fun ok c v W' h hv hR hg => by rw [get_mid _ _ _ _ _ HPL.out] at h; have h2 := k35_put h hv hR hg; exact h2) ?_; intro W9 HO9; rw [set_mid _ _ _ _ _ HPL.out, set_mid _ _ _ _ _ HPL2.out] at HO9; clear HO8 x1 x2 x3 x4 u0 u1 u2))
              go_roundw
              case rel => exact ⟨i + 1, by go_num, ⟨HIL.out⟩, ⟨by rw [HNX2.out, HSA.out]; exact HO9⟩⟩
              case measure => have := HIL.out; simp [intOf]; omega
            case neg =>
              have qc : (a.f0 == cc) = false := beq_eq_false_iff_ne.mpr hcl
              have HSA := Aside0.mk (show sha cc x y a = a from if_neg hcl)
              go_wp2
              go_roundw
              case rel => exact ⟨i + 1, by go_num, ⟨HIL.out⟩, ⟨by rw [HNX2.out, HSA.out]; exact HO⟩⟩
              case measure => have := HIL.out; simp [intOf]; omega
theorem attachShift_walk (A : Option Addr) (c n : Nat) (l : List (List Int)) (w : World) (hn : n = l.length) (hr : Kd.C (Kd.slice 3 (Kd.int .i64)) w A l.length l) (hc : n ≤ c) (b : Int) (hb : (Lit.int .u8 b).wf = true) (p0 p1 : Int) :
    Calls Try.prog 8 #[.slice A n c, .int .u8 b, .agg #[.int .i64 p0, .int .i64 p1]] w fun e w' => e = .returned (.bool true) ∧ Below w.heap.size w w' := by
  subst hn
  have h := u8_wf_ hb
  exact attachShift_calls A c l b p0 p1 w hr hc h.1 h.2
end Go.Proofs.Ytnnkbcgoockniaa.Q
